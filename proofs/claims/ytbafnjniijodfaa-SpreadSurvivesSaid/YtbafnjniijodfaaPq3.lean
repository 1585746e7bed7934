/-
  Texts of this claim, one behind the other: Rules9, InsL, T3, T4, T5, T6, Frz, T7, T8, MapsP, StoreM, T9.
-/
import Derived.Test.YtbafnjniijodfaaPq2
import Derived.Laws.BytesArg
import Derived.Maps.RangeRun
/-
  More rules: strings put together, cut, copied into an array; bytes made a string; a part of an array.
-/

set_option linter.unusedSimpArgs false
set_option linter.unusedVariables false
set_option linter.unnecessarySimpa false
namespace Go.Esp
section
variable {P : Program} {n : Sh} {ops : Array Oper} {Q : Exit → Act → World → Prop} {rest : List Nat} {M M' : Mem} {H H' H0 : Hp} {e : Env} {J S : World → Prop} {A : As} {i : Nat}
  {dst : Option Tmp} {d : Tmp} {op : Op} {ty : TypeId} {pos : String} {af : Array Edge} {gd : Option (Nat × Bool)}

theorem X_cat {t t' : TypeId} {x y : Operand} {a b c : ByteArray} (hi : ops[i]? = some ⟨some d, .binOp .add t x y t', ty, pos, af, gd⟩) (hg : want ops e gd = some true)
    (hx : ev e x = some (.string a)) (hy : ev e y = some (.string b)) (hn : a.size + b.size ≤ 9223372036854775807) (hc : a ++ b = c) (hd : Nat.ble (d + 1) n.sz = true)
    (hk : XD P n ops Q rest J A ((d, .string c) :: e)) : XD P n ops Q (i :: rest) J A e :=
  X_pure hi rfl hg (fun a' w ha => runs_of (by
    subst hc
    simp only [execOp, ha.ev hx, ha.ev hy]
    refine run_v ?_
    have h9 : ¬ (((a.size + b.size : Nat) : Int) > IntKind.i64.max) := by
      rw [show IntKind.i64.max = (9223372036854775807 : Int) by decide]; omega
    rw [Sem.run_bind]
    simp only [eqGuard, binOp, Op.stringOp, if_neg h9]
    rfl)) (fun a ha => ha.put hd _) hk

theorem run_bounds {a' : Act} {w : World} {lo hi : Option Operand} {olo ohi : Option Nat} {l c : Nat} {isS : Bool} (ha : Sat n e a') (h1 : Bnd e lo olo) (h2 : Bnd e hi ohi) (hlc : l ≤ c) (hh : ohi.getD l ≤ c) (hl : olo.getD 0 ≤ ohi.getD l) :
    (Instr.sliceBounds isS l c (lo.map a'.eval) (hi.map a'.eval) none).run P w = .ok (olo.getD 0, ohi.getD l, c) w := by
  unfold Instr.sliceBounds
  simp only []
  rw [run_bind_ok (show (pure c : Sem Nat).run P w = .ok c w from rfl)]
  cases h2 with
  | none =>
    simp only [Option.map_none, Option.getD_none] at hh hl ⊢
    rw [run_bind_ok (show (pure l : Sem Nat).run P w = .ok l w from rfl)]
    cases h1 with
    | none => rfl
    | some hz hzk =>
      subst hzk
      simp only [Option.map_some, ha.ev hz, Option.getD_some] at hl ⊢
      rw [run_bind_ok (run_sliceBound hl)]; rfl
  | some hy hyk =>
    subst hyk
    simp only [Option.map_some, ha.ev hy, Option.getD_some] at hh hl ⊢
    rw [run_bind_ok (run_sliceBound hh)]
    cases h1 with
    | none => rfl
    | some hz hzk =>
      subst hzk
      simp only [Option.map_some, ha.ev hz, Option.getD_some] at hl ⊢
      rw [run_bind_ok (run_sliceBound hl)]; rfl

theorem X_slice_str {t : TypeId} {x : Operand} {lo hi : Option Operand} {olo ohi : Option Nat} {s c : ByteArray} (hi' : ops[i]? = some ⟨some d, .slice t x lo hi none, ty, pos, af, gd⟩) (hg : want ops e gd = some true)
    (hx : ev e x = some (.string s)) (h1 : Bnd e lo olo) (h2 : Bnd e hi ohi) (hu : P.underlying t = some .string) (hh : ohi.getD s.size ≤ s.size) (hl : olo.getD 0 ≤ ohi.getD s.size) (hc : s.extract (olo.getD 0) (ohi.getD s.size) = c) (hd : Nat.ble (d + 1) n.sz = true)
    (hk : XD P n ops Q rest J A ((d, .string c) :: e)) : XD P n ops Q (i :: rest) J A e :=
  X_pure hi' rfl hg (fun a' w ha => runs_of (by
    subst hc
    simp only [execOp]
    refine run_v ?_
    unfold Instr.sliceAt
    rw [run_bind_ok (run_underlying' hu)]
    simp only [ha.ev hx]
    unfold Instr.slice
    rw [run_bind_ok (run_underlying' hu)]
    simp only [Option.map_none, Option.isSome_none, Bool.false_eq_true, if_false]
    have hb := run_bounds (P := P) (w := w) (isS := false) ha h1 h2 (Nat.le_refl s.size) hh hl
    rw [run_bind_ok hb]
    rfl)) (fun a ha => ha.put hd _) hk

theorem X_slice_arrB {t el b off len : Nat} {x : Operand} {lo hi : Option Operand} {olo ohi : Option Nat} {v : Value} (hi' : ops[i]? = some ⟨some d, .slice t x lo hi none, ty, pos, af, gd⟩) (hg : want ops e gd = some true)
    (hx : ev e x = some (.pointer (some ⟨b, off, none⟩))) (h1 : Bnd e lo olo) (h2 : Bnd e hi ohi) (ht : arOf P t = some (len, el)) (hh : ohi.getD len ≤ len) (hl : olo.getD 0 ≤ ohi.getD len)
    (hv : pieceV (some ⟨b, off, none⟩) 1 (olo.getD 0) (ohi.getD len) len = v) (hd : Nat.ble (d + 1) n.sz = true)
    (hK : XD P n ops Q rest J A ((d, v) :: e)) : XD P n ops Q (i :: rest) J A e :=
  X_pure hi' rfl hg (fun a' w ha => runs_of (by
    subst hv
    simp only [execOp, ha.ev hx]
    refine run_v ?_
    obtain ⟨it, hu, hit, h9⟩ := arOf_spec ht
    unfold Instr.sliceAt
    rw [run_bind_ok (run_underlying' hu)]
    simp only [Option.map_none]
    have hb := run_bounds (P := P) (w := w) (isS := false) ha h1 h2 (Nat.le_refl len) hh hl
    rw [run_bind_ok (show (Instr.sureAddr (.pointer (some ⟨b, off, none⟩))).run P w = .ok ⟨b, off, none⟩ w from rfl), run_bind_ok hb, run_bind_ok (run_sizeOf' hit)]
    simp only [h9]
    unfold pieceV
    split <;> rfl)) (fun a ha => ha.put hd _) hK

/-- The bytes of a string, as values. -/
def byteVs (s : ByteArray) : List Value := s.data.toList.map fun b => .int .u8 (b.toNat : Int)

/-- copy of a string into a whole array of ours. -/
theorem X_copyS {t t' E by_ : Nat} {x y : Operand} {s : ByteArray} {b m T : Nat} {r u : Segs} {ats : Array TypeId} (hi : ops[i]? = some ⟨some d, .call ⟨.builtin .copy, #[x, y], ats⟩, ty, pos, af, gd⟩) (hg : want ops e gd = some true)
    (hx : ev e x = some (.slice (some ⟨b, 0, Option.none⟩) m m)) (hy : ev e y = some (.string s)) (hat : ats = #[t, t']) (ht : slOf P t = some (E, 1, by_)) (hs : s.size = m)
    (hu : Upd b (rowO r T) (rowO u T) H H') (hr : (Segs.cells r).length = m) (hc : Segs.cells u = byteVs s) (hd : Nat.ble (d + 1) n.sz = true)
    (hk : XD P n ops Q rest (St M H') ⟨M, H'⟩ ((d, .int .i64 (m : Int)) :: e)) (hnw : n.wrs.contains i = false := by rfl) : XD P n ops Q (i :: rest) J ⟨M, H⟩ e := by
  subst hat
  refine X_mut hi rfl hg (fun a w ha hw => ?_) hnw
  obtain ⟨it, hun, hit, hsz, rfl⟩ := elemOf_spec ht
  have hb := hw.own _ _ hu.mem
  have hcl : (byteVs s).length = m := by
    unfold byteVs
    rw [List.length_map, Array.length_toList]; exact hs
  have hstore := run_storeCells_at P b 0 T (byteVs s) 0 (Segs.cells r).toArray w hb (by simp; omega) (fun v hv => by
    obtain ⟨b9, -, rfl⟩ := List.mem_map.1 hv; rfl)
  have e1 : (List.take 0 (Segs.cells r) ++ byteVs s ++ List.drop (0 + (byteVs s).length) (Segs.cells r)) = Segs.cells u := by
    rw [hc, List.take_zero, List.nil_append, Nat.zero_add, List.drop_eq_nil_of_le (by omega), List.append_nil]
  have hrun : (Builtin.copy_ #[t, t'] ty #[.slice (some ⟨b, 0, Option.none⟩) m m, .string s]).run P w = .ok (goInt m) (w.setRow b (Segs.cells u).toArray) := by
    have e9 : Nat.min s.size m = m := by rw [hs]; exact Nat.min_self m
    have e8 : ((s.extract 0 m).data.map fun b => Value.int .u8 (b.toNat : Int)).toList = byteVs s := by
      rw [← hs]; simp [byteVs]
    have h5 := hstore
    simp only [Nat.add_zero, List.append_assoc, Nat.zero_add] at h5
    simp [Builtin.copy_, run_underlying hun, Builtin.lenOf, Builtin.firstCells, sizeOf, typeInfo, hit, e9, hsz]
    have e7 : List.take m (List.map (fun b : UInt8 => Value.int .u8 (b.toNat : Int)) s.data.toList) = byteVs s := by
      show List.take m (byteVs s) = byteVs s
      exact List.take_of_length_le (by omega)
    rw [e7, h5]
    have e6 : List.take 0 (Segs.cells r) ++ (byteVs s ++ List.drop (byteVs s).length (Segs.cells r)) = Segs.cells u := by
      rw [← e1, Nat.zero_add, List.append_assoc]
    rw [e6]; rfl
  unfold Oper.does
  have : (execOp a.eval ⟨some d, .call ⟨.builtin .copy, #[x, y], #[t, t']⟩, ty, pos, af, gd⟩).run P w = .ok (.value (.int .i64 (m : Int))) (w.setRow b (Segs.cells u).toArray) := by
    simp only [execOp, resolve]
    simp only [invoke, builtin]
    have e1 : #[x, y].map a.eval = #[.slice (some ⟨b, 0, Option.none⟩) m m, .string s] := by simp [ha.ev hx, ha.ev hy]
    rw [e1]
    rw [Sem.run_bind]
    show (Result.ok _ w).andThen _ = _
    rw [Result.andThen_ok]
    exact run_v hrun
  rw [this]
  exact ⟨⟨M, H'⟩, _, hw.upd hu (setRow_heap w b _ _ T _ hb) (fun c hc z hz => by rw [setRow_other w b c _ hc]; exact hz) (SameIO.refl _), ha.put hd _, hk⟩
/-- A call of a function that a value names: no captures. -/
theorem X_fsV {f : FuncId} {g : Operand} {xs : List Operand} {ats : Array TypeId} {vs : List Value} {R : Value → Prop} (hi : ops[i]? = some ⟨some d, .call ⟨.value g, xs.toArray, ats⟩, ty, pos, af, gd⟩) (hcl : clOf P (.call ⟨.value g, xs.toArray, ats⟩) = .eff) (hg : want ops e gd = some true)
    (hf : okFn P f = true) (hgv : ev e g = some (.func (.func f) #[] #[])) (hx : evs e xs = some vs) (hc : Fs P f vs M R) (hd : Nat.ble (d + 1) n.sz = true)
    (hk : ∀ v, R v → XD P n ops Q rest J ⟨M, H⟩ ((d, v) :: e)) : XD P n ops Q (i :: rest) J ⟨M, H⟩ e := by
  obtain ⟨fn, h1, h2, h3⟩ := okFn_spec hf
  refine X_eff hi hcl hg (fun a F w ha hw => does_callV (caps := []) h1 h2 h3 (ha.ev hgv) (by simpa using ha.evs hx) ?_)
  have := hc (F ++ H) w hw
  rw [List.append_nil]
  exact this.mono fun e' w' ⟨v, he, hs, hr⟩ => ⟨v, he, ⟨M, H⟩, _, hs, fun _ h => h, ha.put hd v, hk v hr⟩

/-- The address of an element of an array, the elements of which have some cells. -/
def arOfN (P : Program) (t : TypeId) : Option (Nat × TypeId × Nat) := match P.underlying t with
  | some (.array k el) => match P.info? el with
    | some i => some (k, el, i.size)
    | none => none
  | _ => none
theorem arOfN_spec {t el k sz : Nat} (h : arOfN P t = some (k, el, sz)) : ∃ i, P.underlying t = some (.array k el) ∧ P.info? el = some i ∧ i.size = sz := by
  unfold arOfN at h
  split at h
  · rename_i k' el' hu
    split at h
    · rename_i i hi
      cases h
      exact ⟨i, hu, hi, rfl⟩
    · cases h
  · cases h
theorem X_indexAddr_arrN {t el b off len k sz : Nat} {x ix : Operand} {q : IntKind} {z : Int} (hi : ops[i]? = some ⟨some d, .indexAddr t x ix, ty, pos, af, gd⟩) (hg : want ops e gd = some true)
    (hx : ev e x = some (.pointer (some ⟨b, off, none⟩))) (hix : ev e ix = some (.int q z)) (ht : arOfN P t = some (len, el, sz)) (hz : z = (k : Int)) (hk : k < len) (hd : Nat.ble (d + 1) n.sz = true)
    (hK : XD P n ops Q rest J A ((d, .pointer (some ⟨b, off + k * sz, none⟩)) :: e)) : XD P n ops Q (i :: rest) J A e :=
  X_pure hi rfl hg (fun a' w hA => runs_of (by
    simp only [execOp, hA.ev hx, hA.ev hix]
    refine run_v ?_
    obtain ⟨it, hu, hit, h1⟩ := arOfN_spec ht
    subst hz
    simp [Instr.indexAt, asIntOf, run_underlying hu, sizeOf, typeInfo, hit, hk, h1, Instr.sureAddr, Addr.add_lit])) (fun a ha => ha.put hd _) hK
/-- A row of bytes. -/
def u8R (n : Nat) : Segs := [.one (.int .u8 (n : Int))]
theorem u8_cells : ∀ l : List Nat, rowsCells (l.map u8R) = (l.map fun n : Nat => (n : Int)).map (Value.int .u8)
  | [] => rfl
  | x :: l => by
    have := u8_cells l
    show (Value.int .u8 (x : Int)) :: rowsCells (l.map u8R) = _
    rw [this]; rfl
/-- A row of bytes, as a string. -/
theorem X_convS {src dst' E by_ : Nat} {x : Operand} {u : Value} {l : List Nat} {s : ByteArray} {MJ : Mem} {HJ : Hp} (hi : ops[i]? = some ⟨some d, .convert src dst' x, ty, pos, af, gd⟩) (hg : want ops e gd = some true)
    (hx : ev e x = some u) (hsrc : Src MJ HJ 1 u (l.map u8R)) (ht : slOf P src = some (E, 1, by_)) (he : P.underlying E = some (.int .u8)) (hd' : P.underlying dst' = some .string) (hs : strOfNums (l.map fun n : Nat => (n : Int)) = s) (hd : Nat.ble (d + 1) n.sz = true)
    (hk : XD P n ops Q rest (St MJ HJ) A ((d, .string s) :: e)) : XD P n ops Q (i :: rest) (St MJ HJ) A e := by
  obtain ⟨it, hun, hit, hsz, rfl⟩ := elemOf_spec ht
  have hcl : clOf P (.convert src dst' x) = .read := by simp [clOf, hun, hd']
  obtain ⟨hln, h1, ad, c2, rfl, hsr⟩ := hsrc
  refine X_read hi hcl hg (fun a w ha hw => runs_of ?_) (fun a ha => ha.put hd _) hk
  have hload := run_loadCells_list (P := P) w ad (rowsCells (l.map u8R)) (fun j v hj => hsr w hw j v hj)
  rw [u8_cells, List.length_map, List.length_map] at hload
  have hr : (convert src dst' (.slice (some ad) (l.map u8R).length c2)).run P w = .ok (.string s) w := by
    rw [run_convert_bytes_string w src dst' E _ _ c2 hun he hd', List.length_map, run_bytesToString w ad l.length c2 _ hload, foldl_push_bytes, ← hs]
    simp [strOfNums, ByteArray.empty, ByteArray.emptyWithCapacity]
    first | done | rfl
  simp only [execOp, ha.ev hx]
  exact run_v hr
end

/-- The bytes of a string, as numbers. -/
def natsOf (s : ByteArray) : List Nat := s.data.toList.map fun b => b.toNat
theorem natsOf_len (s : ByteArray) : (natsOf s).length = s.size := by
  unfold natsOf; rw [List.length_map, Array.length_toList]; rfl
theorem natsOf_lt (s : ByteArray) : ∀ b ∈ natsOf s, b < 256 := fun b hb => by
  obtain ⟨u, -, rfl⟩ := List.mem_map.1 hb
  exact u.toNat_lt
theorem getD_lt {B : List Nat} (h : ∀ b ∈ B, b < 256) (j : Nat) : B.getD j 0 < 256 := by
  rw [List.getD_eq_getElem?_getD]
  cases hg : B[j]? with
  | none => simp
  | some v => exact h v (List.mem_of_getElem? hg)
theorem byteVs_nats (s : ByteArray) : byteVs s = (natsOf s).map fun n => .int .u8 (n : Int) := by
  unfold byteVs natsOf; rw [List.map_map]; rfl
theorem byteVec (s : ByteArray) {m : Nat} (hs : s.size = m) : ∃ bv : Vector Value m, bv.toList = byteVs s :=
  ⟨⟨(byteVs s).toArray, by rw [List.size_toArray, byteVs_nats, List.length_map, natsOf_len, hs]⟩, rfl⟩
theorem byteCell {s : ByteArray} {m j : Nat} {bv : Vector Value m} (h : bv.toList = byteVs s) (hs : s.size = m) (hj : j < m) : (Segs.cells [.arr m bv])[j]? = some (.int .u8 (((natsOf s).getD j 0 : Nat) : Int)) := by
  rw [arr_cells, h, byteVs_nats, List.getElem?_map, List.getD_eq_getElem?_getD, List.getElem?_eq_getElem (by rw [natsOf_len]; omega)]
  rfl
theorem pieceV_at {b off lo hi m : Nat} (h : lo < m) : pieceV (some ⟨b, off, none⟩) 1 lo hi m = .slice (some ⟨b, off + lo, none⟩) (hi - lo) (m - lo) := by
  unfold pieceV
  rw [if_neg (by omega)]
  simp [Addr.add_lit]
/-- A row of words. -/
def u32R (n : Nat) : Segs := [.one (.int .u32 (n : Int))]
end Go.Esp
/-
  One more item in a list, in plain Lean.
-/
set_option linter.unusedSimpArgs false
set_option linter.unusedVariables false
set_option linter.unnecessarySimpa false
namespace Go.Esp
variable {α : Type}
def insL (l : List α) (i : Nat) (x : α) : List α := l.take i ++ x :: l.drop i
theorem insL_len (l : List α) {i : Nat} (hi : i ≤ l.length) (x : α) : (insL l i x).length = l.length + 1 := by unfold insL; simp; omega
theorem insL_map {β : Type} (f : α → β) (l : List α) (i : Nat) (x : α) : (insL l i x).map f = insL (l.map f) i (f x) := by unfold insL; simp
theorem insL_end (l : List α) (x : α) : insL l l.length x = l ++ [x] := by unfold insL; simp
theorem take_pre {a b : List α} {i : Nat} (h : a.length = i) : (a ++ b).take i = a := by subst h; exact List.take_left
theorem drop_pre {a b : List α} {i : Nat} (h : a.length = i) : (a ++ b).drop i = b := by subst h; exact List.drop_left
/-- A new row: what stood ahead, zeros; then the new one, then what stood behind. -/
theorem ins_grow {rows zs : List α} {i : Nat} {x : α} (hi : i < rows.length) (hz : zs.length = rows.length + 1 - i) :
    (((rows.take i ++ zs).take i ++ [x] ++ (rows.take i ++ zs).drop (i + 1)).take (i + 1) ++ rows.drop i ++ ((rows.take i ++ zs).take i ++ [x] ++ (rows.take i ++ zs).drop (i + 1)).drop (i + 1 + (rows.drop i).length)) = insL rows i x := by
  have h1 : (rows.take i).length = i := by simp; omega
  rw [take_pre h1]
  have h2 : (rows.take i ++ [x]).length = i + 1 := by simp; omega
  rw [take_pre h2]
  have h3 : (rows.take i ++ zs).length = rows.length + 1 := by simp [hz]; omega
  rw [List.drop_of_length_le (i := i + 1 + (rows.drop i).length) (by simp only [List.length_append, List.length_drop, h3, h2, List.length_cons, List.length_nil, h1]; omega)]
  unfold insL; simp
/-- The same row: what stood behind moves on, and the new one is put ahead of it. -/
theorem ins_room {rows ext : List α} {i : Nat} {x : α} (hi : i < rows.length) (he : ext.length = 1) :
    (((rows ++ ext).take (i + 1) ++ rows.drop i ++ (rows ++ ext).drop (i + 1 + (rows.drop i).length)).take i ++ [x] ++ ((rows ++ ext).take (i + 1) ++ rows.drop i ++ (rows ++ ext).drop (i + 1 + (rows.drop i).length)).drop (i + 1)) = insL rows i x := by
  have h1 : ((rows ++ ext).take (i + 1)).length = i + 1 := by simp; omega
  rw [List.drop_of_length_le (i := i + 1 + (rows.drop i).length) (by simp [he]; omega), List.append_nil, drop_pre h1]
  rw [List.take_append_of_le_length (by omega), List.take_take, Nat.min_eq_left (by omega), List.take_append_of_le_length (by omega)]
  unfold insL; simp
end Go.Esp
/-
  Rows of marks.
-/
set_option linter.unusedSimpArgs false
set_option linter.unusedVariables false
set_option linter.unnecessarySimpa false
set_option maxRecDepth 8000
set_option maxHeartbeats 1000000
namespace Go.Proofs.Ytbafnjniijodfaa
open Go.Esp
theorem F.elem35 : slOf Try.prog 35 = some (70, 6, 56) := by kernel_rfl
theorem F.ext90 : Ext Try.prog 90 (Extern.SlicesOverlaps.overlaps #[35, 35] #[4]) := fun args w => by kernel_rfl
theorem F.zero70 : zeroOf Try.prog 70 = some (aggV [.one (.int .i64 0), .one (.int .u64 0), .one (.int .i64 0), .one (.int .u64 0), .one (.bool false), .one (.string ⟨#[]⟩)]) := by kernel_rfl

theorem CloneK_nil (M : Mem) (c : Nat) (l : List MarkV) (k : SlK M MarkV.segs 6 ⟨none, c, l⟩) (hb : l.length ≤ 1000000) : Fh Try.prog 70 [.slice none l.length c] M [] (fun M' v Hout => M' = M ∧ OSl 70 6 v Hout (l.map MarkV.segs)) := by
  have hl0 : l = [] := SlM.none_nil k.h1
  subst hl0
  have hl0 : ([] : List MarkV).map MarkV.segs = [] := rfl
  refine fh_enter Try.func70 rfl Try.ntmps70 rfl ?_; intro H
  refine C_seq ?_
  refine C_region (l := [0]) rfl ?_
  refine Y_assign ?_
  refine XD_end ?_
  refine K_then ?_
  iterate 2 refine C_seq ?_
  refine C_region (l := [0, 1]) rfl ?_
  refine Y_move ?_
  refine Y_nil Try.underlying35 ?_
  refine XD_end ?_
  refine K_then ?_
  refine Y_pk [4, 2, 0] ?_
  refine C_cond rfl (fun hc1 => ?_) (fun hc1 => ?_)
  ·skip
   refine C_seq ?_
   refine C_region (l := [0]) rfl ?_
   refine Y_assign ?_
   refine XD_end ?_
   refine K_then ?_
   refine Y_pk [2, 0] ?_
   refine C_ret ?_
   refine K_ret ?_
   refine K_end (.inr rfl) (.tmp rfl .nil) (fun w hw => ?_)
   exact ⟨_, M, [], rfl, Mem.le.refl M, hw.c, rfl, by rw [hl0]; exact OSl.nil⟩
  ·skip
   (exfalso; simp [eqX] at hc1; done)
theorem CloneK_some (M : Mem) (ad : Addr) (c : Nat) (l : List MarkV) (k : SlK M MarkV.segs 6 ⟨some ad, c, l⟩) (hb : l.length ≤ 1000000) : Fh Try.prog 70 [.slice (some ad) l.length c] M [] (fun M' v Hout => M' = M ∧ OSl 70 6 v Hout (l.map MarkV.segs)) := by
  have hml : l.length = (l.map MarkV.segs).length := (List.length_map ..).symm
  refine fh_enter Try.func70 rfl Try.ntmps70 rfl ?_; intro H
  refine C_seq ?_
  refine C_region (l := [0]) rfl ?_
  refine Y_assign ?_
  refine XD_end ?_
  refine K_then ?_
  iterate 2 refine C_seq ?_
  refine C_region (l := [0, 1]) rfl ?_
  refine Y_move ?_
  refine Y_nil Try.underlying35 ?_
  refine XD_end ?_
  refine K_then ?_
  refine Y_pk [4, 2, 0] ?_
  refine C_cond rfl (fun hc1 => ?_) (fun hc1 => ?_)
  ·skip
   (exfalso; simp [eqX] at hc1; done)
  ·skip
   refine C_skip ?_
   refine K_then ?_
   refine Y_pk [2, 0] ?_
   refine C_seq ?_
   refine C_region (l := [0, 1, 2, 3]) rfl ?_
   refine X_buildSliceF rfl rfl F.elem35 F.zero70 rfl rfl (.nil) rfl rfl (by simp only [List.map_cons, List.map_nil] <;> rfl) rfl ?_; intro b2 hob3
   refine Y_move ?_
   refine X_append (m := 1000000) rfl rfl rfl rfl rfl F.elem35 F.zero70 (by rfl) rfl (by assumption) (by repeat first | exact Rem.here _ | exact Rem.two | apply Rem.skip | apply Rem.over) (SlM.src k.h1 (rows_one MarkV.flat _) hml) (by (simp; omega)) (by decide) rfl ?_; intro v6 hs5 ho4; obtain ⟨adv6, cpv6, rfl⟩ := ho4.val
   refine Y_assign ?_
   refine XD_end ?_
   refine K_then ?_
   refine Y_pk [2] ?_
   refine C_ret ?_
   refine K_end (.inr rfl) (.tmp rfl .nil) (fun w hw => ?_)
   exact ⟨_, M, _, rfl, Mem.le.refl M, hw.c, rfl, by assumption⟩

theorem CloneK_ok (M : Mem) (a : Option Addr) (c : Nat) (l : List MarkV) (k : SlK M MarkV.segs 6 ⟨a, c, l⟩) (hb : l.length ≤ 1000000) : Fh Try.prog 70 [.slice a l.length c] M [] (fun M' v Hout => M' = M ∧ OSl 70 6 v Hout (l.map MarkV.segs)) := by
  cases a with
  |none => exact CloneK_nil M c l k hb
  |some ad => exact CloneK_some M ad c l k hb

theorem InsertK_nil (M : Mem) (x : MarkV) (bv : Nat) (hv : Hp) (hob : OSl 70 6 (.slice (some ⟨bv, 0, none⟩) 1 1) hv [MarkV.segs x]) : Fh Try.prog 79 [.slice none 0 0, .int .i64 ((0 : Nat) : Int), .slice (some ⟨bv, 0, none⟩) 1 1] M hv (fun M' v Hout => M' = M ∧ OSl 70 6 v Hout ([] ++ [MarkV.segs x])) := by
  refine fh_enter Try.func79 rfl Try.ntmps79 rfl ?_; intro H
  refine C_seq ?_
  refine C_region (l := [0]) rfl ?_
  refine Y_assign ?_
  refine XD_end ?_
  refine K_then ?_
  refine C_seq ?_
  refine C_region (l := [0, 1, 2]) rfl ?_
  iterate 2 refine Y_move ?_
  refine X_slice rfl rfl rfl (.some (k := 0) rfl rfl) .none .none F.elem35 (by simp) (by simp) (by simp) (by simp) rfl rfl ?_
  refine XD_end ?_
  refine K_then ?_
  refine Y_pk [6, 0, 1, 2] ?_
  refine C_seq ?_
  refine C_region (l := [0, 1, 2]) rfl ?_
  refine Y_move ?_
  refine Y_len_sl F.elem35 ?_
  refine Y_assign ?_
  refine XD_end ?_
  refine K_then ?_
  refine Y_pk [7, 6, 0, 1, 2] ?_
  iterate 2 refine C_seq ?_
  refine C_region (l := [0, 1]) rfl ?_
  refine Y_move ?_
  refine Y_cmp ?_
  refine XD_end ?_
  refine K_then ?_
  refine Y_pk [16, 7, 6, 0, 1, 2] ?_
  refine C_cond rfl (fun hc1 => ?_) (fun hc1 => ?_)
  ·replace hc1 := dT hc1
   (exfalso; omega)
  ·replace hc1 := dF hc1
   refine C_skip ?_
   refine K_then ?_
   refine Y_pk [7, 6, 0, 1, 2] ?_
   refine C_seq ?_
   refine C_region (l := [0, 1, 2]) rfl ?_
   refine Y_move ?_
   refine Y_len_sl F.elem35 ?_
   refine Y_assign ?_
   refine XD_end ?_
   refine K_then ?_
   refine Y_pk [8, 7, 6, 0, 1, 2] ?_
   iterate 2 refine C_seq ?_
   refine C_region (l := [0, 1, 2]) rfl ?_
   iterate 2 refine Y_move ?_
   refine Y_cmp ?_
   refine XD_end ?_
   refine K_then ?_
   refine Y_pk [22, 8, 7, 6, 0, 1, 2] ?_
   refine C_cond rfl (fun hc2 => ?_) (fun hc2 => ?_)
   ·replace hc2 := dT hc2
    simp only [AnswerV.eta, MarkV.eta, CellV.eta, HeldV.eta, PeerV.eta] at hc2
    refine C_seq ?_
    refine C_region (l := [0, 1, 2, 3]) rfl ?_
    iterate 2 refine Y_move ?_
    refine X_append (m := 1000000) rfl rfl rfl rfl rfl F.elem35 F.zero70 (by rfl) rfl (by exact OSl.nil) (by repeat first | exact Rem.here _ | exact Rem.two | apply Rem.skip | apply Rem.over) (OSl.srcAll hob (by repeat first | exact Rem.here _ | exact Rem.two | apply Rem.skip | apply Rem.over) (by intro u hu; exact rows_one MarkV.flat [x] u (by simpa using hu))) (by (simp; done)) (by decide) rfl ?_; intro v5 hs4 ho3; obtain ⟨adv5, cpv5, rfl⟩ := ho3.val
    refine Y_assign ?_
    refine XD_end ?_
    refine K_then ?_
    refine Y_pk [6, 8, 7, 0, 1, 2] ?_
    refine C_ret ?_
    refine K_ret ?_
    refine K_end (.inr rfl) (.tmp rfl .nil) (fun w hw => ?_)
    exact ⟨_, M, hs4, rfl, Mem.le.refl M, hw.c, rfl, ho3⟩
   ·replace hc2 := dF hc2
    simp only [AnswerV.eta, MarkV.eta, CellV.eta, HeldV.eta, PeerV.eta] at hc2
    (exfalso; simp [eqX] at hc2; done)

theorem InsertK_some (M : Mem) (b : Nat) (c : Nat) (l : List MarkV) (hs : Hp) (i : Nat) (hi : i ≤ l.length) (x : MarkV) (bv : Nat) (hv : Hp) (hob : OSl 70 6 (.slice (some ⟨bv, 0, none⟩) 1 1) hv [MarkV.segs x]) (hb : l.length ≤ 1000000) (ho : OSl 70 6 (.slice (some ⟨b, 0, none⟩) l.length c) hs (l.map MarkV.segs)) : Fh Try.prog 79 [.slice (some ⟨b, 0, none⟩) l.length c, .int .i64 (i : Int), .slice (some ⟨bv, 0, none⟩) 1 1] M (hs ++ hv) (fun M' v Hout => M' = M ∧ OSl 70 6 v Hout ((insL l i x).map MarkV.segs)) := by
  have hcc := ho.caps
  simp only [List.length_map] at hcc
  have hob9 := hob
  have hom : OSl 70 6 (.slice (some ⟨b, 0, none⟩) (l.map MarkV.segs).length c) hs (l.map MarkV.segs) := by rw [List.length_map]; exact ho
  obtain ⟨cv, rfl, _⟩ := hob9.inv
  refine fh_enter Try.func79 rfl Try.ntmps79 rfl ?_; intro H
  rw [List.append_assoc]
  refine C_seq ?_
  refine C_region (l := [0]) rfl ?_
  refine Y_assign ?_
  refine XD_end ?_
  refine K_then ?_
  refine C_seq ?_
  refine C_region (l := [0, 1, 2]) rfl ?_
  iterate 2 refine Y_move ?_
  refine X_slice rfl rfl rfl (.some (k := i) rfl rfl) .none .none F.elem35 (by simp) (by simp only [Option.getD_some, Option.getD_none]; omega) (by simp only [Option.getD_some, Option.getD_none]; omega) (by simp) rfl rfl ?_
  refine XD_end ?_
  refine K_then ?_
  refine Y_pk [6, 0, 1, 2] ?_
  refine C_seq ?_
  refine C_region (l := [0, 1, 2]) rfl ?_
  refine Y_move ?_
  refine Y_len_sl F.elem35 ?_
  refine Y_assign ?_
  refine XD_end ?_
  refine K_then ?_
  refine Y_pk [7, 6, 0, 1, 2] ?_
  iterate 2 refine C_seq ?_
  refine C_region (l := [0, 1]) rfl ?_
  refine Y_move ?_
  refine Y_cmp ?_
  refine XD_end ?_
  refine K_then ?_
  refine Y_pk [16, 7, 6, 0, 1, 2] ?_
  refine C_cond rfl (fun hc1 => ?_) (fun hc1 => ?_)
  ·replace hc1 := dT hc1
   (exfalso; omega)
  ·replace hc1 := dF hc1
   refine C_skip ?_
   refine K_then ?_
   refine Y_pk [7, 6, 0, 1, 2] ?_
   refine C_seq ?_
   refine C_region (l := [0, 1, 2]) rfl ?_
   refine Y_move ?_
   refine Y_len_sl F.elem35 ?_
   refine Y_assign ?_
   refine XD_end ?_
   refine K_then ?_
   refine Y_pk [8, 7, 6, 0, 1, 2] ?_
   iterate 2 refine C_seq ?_
   refine C_region (l := [0, 1, 2]) rfl ?_
   iterate 2 refine Y_move ?_
   refine Y_cmp ?_
   refine XD_end ?_
   refine K_then ?_
   refine Y_pk [22, 8, 7, 6, 0, 1, 2] ?_
   refine C_cond rfl (fun hc2 => ?_) (fun hc2 => ?_)
   ·replace hc2 := dT hc2
    refine C_seq ?_
    refine C_region (l := [0, 1, 2, 3]) rfl ?_
    iterate 2 refine Y_move ?_
    refine X_append (m := 1000001) rfl rfl rfl rfl rfl F.elem35 F.zero70 (by rfl) rfl (by assumption) (by repeat first | exact Rem.here _ | exact Rem.two | apply Rem.skip | apply Rem.over) (OSl.srcAll hob (by repeat first | exact Rem.here _ | exact Rem.two | apply Rem.skip | apply Rem.over) (by intro u hu; exact rows_one MarkV.flat [x] u (by simpa using hu))) (by (simp; omega)) (by decide) rfl ?_; intro v5 hs4 ho3; obtain ⟨adv5, cpv5, rfl⟩ := ho3.val
    refine Y_assign ?_
    refine XD_end ?_
    refine K_then ?_
    refine Y_pk [6, 8, 7, 0, 1, 2] ?_
    refine C_ret ?_
    refine K_ret ?_
    refine K_end (.inr rfl) (.tmp rfl .nil) (fun w hw => ?_)
    obtain rfl : i = l.length := by omega
    exact ⟨_, M, hs4, rfl, Mem.le.refl M, hw.c, rfl, by rw [insL_end, List.map_append]; exact ho3⟩
   ·replace hc2 := dF hc2
    refine C_skip ?_
    refine K_then ?_
    refine Y_pk [8, 7, 6, 0, 1, 2] ?_
    iterate 2 refine C_seq ?_
    refine C_region (l := [0, 1, 2, 3, 4, 5]) rfl ?_
    iterate 2 refine Y_move ?_
    refine X_ari rfl rfl rfl rfl rfl (by exact wrap_in (by decide) (by omega)) rfl ?_
    refine Y_move ?_
    refine X_cap_sl rfl rfl rfl rfl F.elem35 rfl ?_
    refine Y_cmp ?_
    refine XD_end ?_
    refine K_then ?_
    refine Y_pk [31, 8, 7, 6, 0, 1, 2] ?_
    refine C_cond rfl (fun hc6 => ?_) (fun hc6 => ?_)
    ·replace hc6 := dT hc6
     refine C_seq ?_
     refine C_region (l := [0, 1, 2, 3, 4, 5, 6, 7, 8, 9]) rfl ?_
     iterate 2 refine Y_move ?_
     refine X_slice rfl rfl rfl .none (.some (k := i) rfl (by rfl)) .none F.elem35 (by simp) (by simp only [Option.getD_some, Option.getD_none]; omega) (by simp only [Option.getD_some, Option.getD_none]; omega) (by simp) (show pieceV (some ⟨_, 0, none⟩) 6 0 (i) c = .slice (some ⟨_, 0, none⟩) (i) c from pieceV_zero) rfl ?_
     iterate 2 refine Y_move ?_
     refine X_ari rfl rfl rfl rfl rfl (by exact wrap_in (by decide) (by omega)) rfl ?_
     refine Y_move ?_
     refine X_ari rfl rfl rfl rfl rfl (by exact wrap_in (by decide) (by omega)) rfl ?_
     rw [show (l.length : Int) + ((1 : Nat) : Int) - (i : Int) = ((l.length + 1 - i : Nat) : Int) by omega]
     refine X_appendZO (j := i) (k := l.length + 1 - i) rfl rfl rfl rfl F.elem35 Try.underlying3 F.zero70 (by rfl) rfl ho (by repeat first | exact Rem.here _ | exact Rem.two | apply Rem.skip | apply Rem.over) (by rw [List.length_map]; omega) (by omega) (by omega) (by omega) (Nat.le_trans (Nat.mul_le_mul_right _ (show i + (l.length + 1 - i) ≤ 1000001 by omega)) (by decide)) rfl ?_; intro b9 c9 hs9 zs9 hz9 ho9
     rw [show i + (l.length + 1 - i) = l.length + 1 by omega] at ho9 ⊢
     have hn9 : ((l.map MarkV.segs).take i ++ zs9).length = l.length + 1 := by simp [hz9]; omega
     have hc9 := ho9.caps
     refine Y_assign ?_
     refine XD_end ?_
     refine K_then ?_
     refine Y_pk [9, 8, 7, 6, 0, 1, 2] ?_
     refine C_seq ?_
     refine C_region (l := [0, 1, 2, 3, 4]) rfl ?_
     iterate 2 refine Y_move ?_
     refine X_slice rfl rfl rfl (.some (k := i) rfl (by rfl)) .none .none F.elem35 (by simp) (by simp only [Option.getD_some, Option.getD_none]; omega) (by simp only [Option.getD_some, Option.getD_none]; omega) (by simp) (show pieceV (some ⟨_, 0, none⟩) 6 (i) (l.length + 1) (c9) = .slice (some ⟨_, 0 + (i) * 6, none⟩) (l.length + 1 - (i)) (c9 - (i)) from pieceV_in (by omega)) rfl ?_
     refine Y_move ?_
     rw [Nat.zero_add]
     refine X_copyP (k := i) (news := [MarkV.segs x]) rfl rfl rfl rfl rfl F.elem35 rfl (by rw [hn9]; omega) ho9 (by repeat first | exact Rem.here _ | exact Rem.two | apply Rem.skip | apply Rem.over) (OSl.srcAll hob (by repeat first | exact Rem.here _ | exact Rem.two | apply Rem.skip | apply Rem.over) (by intro u hu; exact rows_one MarkV.flat [x] u (by simpa using hu))) (by show 1 = min 1 (l.length + 1 - i); omega) rfl ?_; intro hs10 ho10
     rw [hn9] at ho10
     refine XD_end ?_
     refine K_then ?_
     refine Y_pk [9, 8, 7, 6, 0, 1, 2] ?_
     refine C_seq ?_
     refine C_region_any (l := [0, 1, 2, 3, 4, 5, 6, 7, 8]) #[0, 0, 0, 6, 15, 0, 0, 96, 255] _ rfl (by kernel_rfl) (by kernel_rfl) St.drawn (fun _ h => h) ?_
     iterate 3 refine Y_move ?_
     refine X_ari rfl rfl rfl rfl rfl (by exact wrap_in (by decide) (by omega)) rfl ?_
     refine X_slice rfl rfl rfl (.some (k := i + 1) rfl (by rfl)) .none .none F.elem35 (by simp) (by simp only [Option.getD_some, Option.getD_none]; omega) (by simp only [Option.getD_some, Option.getD_none]; omega) (by simp) (show pieceV (some ⟨_, 0, none⟩) 6 (i + 1) (l.length + 1) (c9) = .slice (some ⟨_, 0 + (i + 1) * 6, none⟩) (l.length + 1 - (i + 1)) (c9 - (i + 1)) from pieceV_in (by omega)) rfl ?_
     iterate 2 refine Y_move ?_
     refine X_slice rfl rfl rfl (.some (k := i) rfl (by rfl)) .none .none F.elem35 (by simp) (by simp only [Option.getD_some, Option.getD_none]; omega) (by simp only [Option.getD_some, Option.getD_none]; omega) (by simp) (show pieceV (some ⟨_, 0, none⟩) 6 (i) (l.length) (c) = .slice (some ⟨_, 0 + (i) * 6, none⟩) (l.length - (i)) (c - (i)) from pieceV_in (by omega)) rfl ?_
     rw [Nat.zero_add, Nat.zero_add]
     have hn10 : (((l.map MarkV.segs).take i ++ zs9).take i ++ [MarkV.segs x] ++ ((l.map MarkV.segs).take i ++ zs9).drop (i + [MarkV.segs x].length)).length = l.length + 1 := by simp only [List.length_append, List.length_take, List.length_drop, hn9, List.length_cons, List.length_nil]; omega
     refine X_copyP (k := i + 1) (news := (l.map MarkV.segs).drop i) rfl rfl rfl rfl rfl F.elem35 rfl (by rw [hn10]; omega) ho10 (by repeat first | exact Rem.here _ | exact Rem.two | apply Rem.skip | apply Rem.over) (by rw [List.length_drop]; exact hom.src (by repeat first | exact Rem.here _ | exact Rem.two | apply Rem.skip | apply Rem.over) (by intro u hu; exact rows_one MarkV.flat l u hu)) (by simp only [List.length_drop, List.length_map]; omega) rfl ?_; intro hs11 ho11
     rw [hn10] at ho11
     rw [show i + [MarkV.segs x].length = i + 1 from rfl, ins_grow (by rw [List.length_map]; omega) (by rw [List.length_map]; exact hz9)] at ho11
     refine XD_end ?_
     refine K_then ?_
     refine Y_pk [9, 8, 7, 6, 0, 1, 2] ?_
     refine C_seq ?_
     refine C_region (l := [0, 1]) rfl ?_
     refine Y_move ?_
     refine Y_assign ?_
     refine XD_end ?_
     refine K_then ?_
     refine Y_pk [6, 8, 7, 0, 1, 2] ?_
     refine C_ret ?_
     refine K_ret ?_
     refine K_end (.inr rfl) (.tmp rfl .nil) (fun w hw => ?_)
     exact ⟨_, M, hs11, rfl, Mem.le.refl M, hw.c, rfl, by rw [insL_map]; exact ho11⟩
    ·replace hc6 := dF hc6
     refine C_skip ?_
     refine K_then ?_
     refine Y_pk [8, 7, 6, 0, 1, 2] ?_
     refine C_seq ?_
     refine C_region (l := [0, 1, 2, 3, 4, 5]) rfl ?_
     iterate 3 refine Y_move ?_
     refine X_ari rfl rfl rfl rfl rfl (by exact wrap_in (by decide) (by omega)) rfl ?_
     refine X_slice rfl rfl rfl .none (.some (k := l.length + 1) rfl (by rfl)) .none F.elem35 (by simp) (by simp only [Option.getD_some, Option.getD_none]; omega) (by simp only [Option.getD_some, Option.getD_none]; omega) (by simp) (show pieceV (some ⟨_, 0, none⟩) 6 0 (l.length + 1) c = .slice (some ⟨_, 0, none⟩) (l.length + 1) c from pieceV_zero) rfl ?_
     refine Y_assign ?_
     refine XD_end ?_
     refine K_then ?_
     refine Y_pk [0, 8, 7, 6, 1, 2] ?_
     iterate 2 refine C_seq ?_
     refine C_region (l := [0, 1, 2, 3, 4, 5, 6, 7]) rfl ?_
     obtain ⟨ext, hext, ho13⟩ := OSl.extend (m := 1) (show OSl 70 6 (.slice (some ⟨b, 0, none⟩) (l.map MarkV.segs).length c) hs (l.map MarkV.segs) by rw [List.length_map]; exact ho) (by rw [List.length_map]; omega)
     rw [List.length_map] at ho13
     iterate 4 refine Y_move ?_
     refine X_ari rfl rfl rfl rfl rfl (by exact wrap_in (by decide) (by omega)) rfl ?_
     refine X_slice rfl rfl rfl (.some (k := i + 1) rfl (by rfl)) .none .none F.elem35 (by simp) (by simp only [Option.getD_some, Option.getD_none]; omega) (by simp only [Option.getD_some, Option.getD_none]; omega) (by simp) (show pieceV (some ⟨_, 0, none⟩) 6 (i + 1) (l.length + 1) (c) = .slice (some ⟨_, 0 + (i + 1) * 6, none⟩) (l.length + 1 - (i + 1)) (c - (i + 1)) from pieceV_in (by omega)) rfl ?_
     refine X_ext rfl rfl F.ext90 rfl (fun w hw => run_apart (tR := 4) F.elem35 ho (by repeat first | exact Rem.here _ | exact Rem.two | apply Rem.skip | apply Rem.over) (.head _) (Nat.mul_pos (by omega) (by decide)) hw) rfl ?_
     refine Y_not ?_
     refine XD_end ?_
     refine K_then ?_
     refine Y_pk [68, 0, 8, 7, 6, 1, 2] ?_
     refine C_cond rfl (fun hc7 => ?_) (fun hc7 => ?_)
     ·skip
      refine C_seq ?_
      refine C_region_any (l := [0, 1, 2, 3, 4, 5, 6, 7, 8]) #[0, 0, 0, 6, 15, 0, 0, 96, 255] _ rfl (by kernel_rfl) (by kernel_rfl) St.drawn (fun _ h => h) ?_
      iterate 3 refine Y_move ?_
      refine X_ari rfl rfl rfl rfl rfl (by exact wrap_in (by decide) (by omega)) rfl ?_
      refine X_slice rfl rfl rfl (.some (k := i + 1) rfl (by rfl)) .none .none F.elem35 (by simp) (by simp only [Option.getD_some, Option.getD_none]; omega) (by simp only [Option.getD_some, Option.getD_none]; omega) (by simp) (show pieceV (some ⟨_, 0, none⟩) 6 (i + 1) (l.length + 1) (c) = .slice (some ⟨_, 0 + (i + 1) * 6, none⟩) (l.length + 1 - (i + 1)) (c - (i + 1)) from pieceV_in (by omega)) rfl ?_
      iterate 2 refine Y_move ?_
      refine X_slice rfl rfl rfl (.some (k := i) rfl (by rfl)) .none .none F.elem35 (by simp) (by simp only [Option.getD_some, Option.getD_none]; omega) (by simp only [Option.getD_some, Option.getD_none]; omega) (by simp) (show pieceV (some ⟨_, 0, none⟩) 6 (i) (l.length + 1) (c) = .slice (some ⟨_, 0 + (i) * 6, none⟩) (l.length + 1 - (i)) (c - (i)) from pieceV_in (by omega)) rfl ?_
      rw [Nat.zero_add, Nat.zero_add]
      refine X_copyP (k := i + 1) (news := (l.map MarkV.segs).drop i) rfl rfl rfl rfl rfl F.elem35 rfl (by simp [hext]; omega) ho13 (by repeat first | exact Rem.here _ | exact Rem.two | apply Rem.skip | apply Rem.over) (by rw [List.length_drop]; exact hom.src (by repeat first | exact Rem.here _ | exact Rem.two | apply Rem.skip | apply Rem.over) (by intro u hu; exact rows_one MarkV.flat l u hu)) (by simp only [List.length_drop, List.length_map]; omega) rfl ?_; intro hs15 ho15
      have hn15 : ((l.map MarkV.segs) ++ ext).length = l.length + 1 := by simp [hext]
      rw [hn15] at ho15
      refine XD_end ?_
      refine K_then ?_
      refine Y_pk [0, 8, 7, 6, 1, 2] ?_
      refine C_seq ?_
      refine C_region (l := [0, 1, 2, 3, 4]) rfl ?_
      iterate 2 refine Y_move ?_
      refine X_slice rfl rfl rfl (.some (k := i) rfl (by rfl)) .none .none F.elem35 (by simp) (by simp only [Option.getD_some, Option.getD_none]; omega) (by simp only [Option.getD_some, Option.getD_none]; omega) (by simp) (show pieceV (some ⟨_, 0, none⟩) 6 (i) (l.length + 1) (c) = .slice (some ⟨_, 0 + (i) * 6, none⟩) (l.length + 1 - (i)) (c - (i)) from pieceV_in (by omega)) rfl ?_
      refine Y_move ?_
      rw [Nat.zero_add]
      have hn16 : (((l.map MarkV.segs) ++ ext).take (i + 1) ++ (l.map MarkV.segs).drop i ++ ((l.map MarkV.segs) ++ ext).drop (i + 1 + ((l.map MarkV.segs).drop i).length)).length = l.length + 1 := by simp only [List.length_append, List.length_take, List.length_drop, List.length_map, hext]; omega
      refine X_copyP (k := i) (news := [MarkV.segs x]) rfl rfl rfl rfl rfl F.elem35 rfl (by rw [hn16]; omega) ho15 (by repeat first | exact Rem.here _ | exact Rem.two | apply Rem.skip | apply Rem.over) (OSl.srcAll hob (by repeat first | exact Rem.here _ | exact Rem.two | apply Rem.skip | apply Rem.over) (by intro u hu; exact rows_one MarkV.flat [x] u (by simpa using hu))) (by show 1 = min 1 (l.length + 1 - i); omega) rfl ?_; intro hs16 ho16
      rw [hn16] at ho16
      rw [show i + [MarkV.segs x].length = i + 1 from rfl, ins_room (by rw [List.length_map]; omega) hext] at ho16
      refine XD_end ?_
      refine K_then ?_
      refine Y_pk [0, 8, 7, 6, 1, 2] ?_
      refine C_seq ?_
      refine C_region (l := [0, 1]) rfl ?_
      refine Y_move ?_
      refine Y_assign ?_
      refine XD_end ?_
      refine K_then ?_
      refine Y_pk [6, 0, 8, 7, 1, 2] ?_
      refine C_ret ?_
      refine K_ret ?_
      refine K_end (.inr rfl) (.tmp rfl .nil) (fun w hw => ?_)
      exact ⟨_, M, hs16, rfl, Mem.le.refl M, hw.c, rfl, by rw [insL_map]; exact ho16⟩
     ·skip
      (exfalso; simp [eqX] at hc7; done)

theorem InsertK_ok (M : Mem) (a : Option Addr) (c : Nat) (l : List MarkV) (hs : Hp) (i : Nat) (hi : i ≤ l.length) (x : MarkV) (bv : Nat) (hv : Hp) (hob : OSl 70 6 (.slice (some ⟨bv, 0, none⟩) 1 1) hv [MarkV.segs x]) (hb : l.length ≤ 1000000) (ho : OSl 70 6 (.slice a l.length c) hs (l.map MarkV.segs)) : Fh Try.prog 79 [.slice a l.length c, .int .i64 (i : Int), .slice (some ⟨bv, 0, none⟩) 1 1] M (hs ++ hv) (fun M' v Hout => M' = M ∧ OSl 70 6 v Hout ((insL l i x).map MarkV.segs)) := by
  cases a with
  |none =>
   obtain ⟨rfl, rfl, rfl⟩ := ho.noneAll
   obtain rfl : i = 0 := by simpa using hi
   exact InsertK_nil M x bv hv hob
  |some ad =>
   obtain ⟨b, rfl⟩ := ho.someAll
   exact InsertK_some M b c l hs i hi x bv hv hob hb ho

end Go.Proofs.Ytbafnjniijodfaa
/-
  Search among marks.
-/
set_option linter.unusedSimpArgs false
set_option linter.unusedVariables false
set_option linter.unnecessarySimpa false
set_option maxRecDepth 8000
set_option maxHeartbeats 1000000
namespace Go.Proofs.Ytbafnjniijodfaa
open Go.Esp
theorem F.lay70 : lay Try.prog 70 = some (true, 6) := by kernel_rfl

theorem BSK_rd (M : Mem) (Hin : Hp) (l : Sl MarkV) (xv : Value) (gf : FuncId) (caps : List Value) (cmp : MarkV → Int) (hl : RdS M Hin l.a (l.l.map MarkV.segs) 6) (bl : l.l.length ≤ 1000000) (hok : okFn Try.prog gf = true) (hc : ∀ x ∈ l.l, Fo Try.prog gf ([x.enc, xv] ++ caps) M Hin (fun M' v => M' = M ∧ v = .int .i64 (cmp x))) (hmono : ∀ i j (hi : i < l.l.length) (hj : j < l.l.length), i ≤ j → 0 ≤ cmp l.l[i] → 0 ≤ cmp l.l[j]) : Fo Try.prog 77 [l.val, xv, .func (.func gf) #[] caps.toArray] M Hin (fun M' v => M' = M ∧ v = .tuple #[.int .i64 ((bsAt cmp l.l : Nat) : Int), .bool (bsIs cmp l.l)]) := by
  have nl : (l.l.map MarkV.segs).length = l.l.length := List.length_map ..
  refine fo_enter Try.func77 rfl Try.ntmps77 rfl ?_; intro H
  have hrd := hl.app H
  refine C_seq ?_
  refine C_region (l := [0, 1]) rfl ?_
  iterate 2 refine Y_assign ?_
  refine XD_end ?_
  refine K_then ?_
  refine C_seq ?_
  refine C_region (l := [0, 1, 2]) rfl ?_
  refine Y_move ?_
  refine Y_len_sl F.elem35 ?_
  refine Y_assign ?_
  refine XD_end ?_
  refine K_then ?_
  refine Y_pk [8, 7, 6, 0, 1, 2] ?_
  refine C_seq ?_
  refine C_region (l := [0, 1, 2]) rfl ?_
  refine Y_move ?_
  iterate 2 refine Y_assign ?_
  refine XD_end ?_
  refine K_then ?_
  refine Y_pk [10, 9, 8, 7, 6, 0, 1, 2] ?_
  refine C_seq ?_
  refine C_block ?_
  refine Y_pk [9, 10, 8, 7, 6, 0, 1, 2] ?_
  refine C_loopS (.succ (.succ .zero)) (fun (x : Nat × Nat) z => z = [(9, .int .i64 (x.1 : Int)), (10, .int .i64 (x.2 : Int))] ∧ x.1 ≤ x.2 ∧ x.2 ≤ l.l.length ∧ (∀ y, y < x.1 → bsP cmp l.l y = false) ∧ (x.2 < l.l.length → bsP cmp l.l x.2 = true)) (fun x => x.2 - x.1) ((0, l.l.length)) (⟨rfl, Nat.zero_le _, Nat.le_refl _, fun y h => (by cases h), fun h => (by omega)⟩) ?_
  rintro ⟨a, b⟩ z ⟨hz, h1, h2, h3, h4⟩
  simp only at hz h1 h2 h3 h4
  subst hz
  iterate 2 refine C_seq ?_
  refine C_region (l := [0, 1, 2]) rfl ?_
  iterate 2 refine Y_move ?_
  refine Y_cmp ?_
  refine XD_end ?_
  refine K_then ?_
  refine C_cond rfl (fun hc1 => ?_) (fun hc1 => ?_)
  ·replace hc1 := dT hc1
   refine C_skip ?_
   refine K_then ?_
   refine C_block ?_
   refine C_seq ?_
   refine C_region (l := [0, 1, 2, 3, 4, 5, 6]) rfl ?_
   iterate 2 refine Y_move ?_
   refine X_ari rfl rfl rfl rfl rfl (by exact wrap_in (by decide) (by omega)) rfl ?_
   refine X_conv rfl rfl rfl Try.underlying3 Try.underlying102 (by exact wrap_u64_in (by decide) (by omega)) rfl ?_
   refine X_shift rfl rfl rfl rfl (by decide) (shr_lit 1 (by decide)) rfl rfl ?_
   refine X_conv rfl rfl rfl Try.underlying102 Try.underlying3 (by exact wrap_in (by decide) (by omega)) rfl ?_
   have hm9 : (a + b) / 2 < l.l.length := (by have h8 : a < b := (by omega); omega)
   have e9 : ((a : Int) + (b : Int)) / 2 ^ 1 = (((a + b) / 2 : Nat) : Int) := by omega
   rw [e9]
   refine Y_assign ?_
   refine XD_end ?_
   refine K_then ?_
   refine C_seq ?_
   refine C_region (l := [0, 1, 2, 3, 4, 5, 6, 7]) rfl ?_
   iterate 3 refine Y_move ?_
   refine X_indexAddr rfl rfl rfl rfl F.elem35 (by rfl) (by omega) (by exact RdS.plain (by assumption) (by (simp; omega))) rfl ?_
   refine X_load_rd rfl rfl rfl (by assumption) (by exact row_map (by omega)) F.lay70 rfl rfl rfl ?_
   refine Y_move ?_
   refine X_foV rfl rfl rfl hok rfl rfl (hc _ (List.getElem_mem (n := (a + b) / 2) (by omega))) (by repeat first | exact Rem.here _ | exact Rem.two | apply Rem.skip | apply Rem.over) (putE_some rfl) ?_
   rintro _ M1 _ ⟨hM1, rfl⟩; subst M1
   refine Y_cmp ?_
   refine XD_end ?_
   refine K_then ?_
   refine C_cond rfl (fun hc2 => ?_) (fun hc2 => ?_)
   ·replace hc2 := dT hc2
    simp only [List.get_eq_getElem] at hc2
    refine C_region (l := [0, 1, 2]) rfl ?_
    refine Y_move ?_
    refine X_ari rfl rfl rfl rfl rfl (by exact wrap_in (by decide) (by omega)) rfl ?_
    refine Y_assign ?_
    refine XD_end ?_
    refine K_out ?_
    refine K_roundS (a' := [(9, _), (10, _)]) (((a + b) / 2 + 1, b)) (.cons (k := 9) rfl (.cons (k := 10) rfl (.cons (k := 8) rfl (.cons (k := 7) rfl (.cons (k := 6) rfl (.cons (k := 0) rfl (.cons (k := 1) rfl (.cons (k := 2) rfl (.nil))))))))) (fun w hw => by first | exact hw | exact hw.c) ?_ ?_
    ·refine ⟨rfl, (by show (a + b) / 2 + 1 ≤ b; omega), h2, fun y hy => ?_, h4⟩
     have hy2 : y < (a + b) / 2 + 1 := hy
     rw [bsP_at (by omega)]
     refine decide_eq_false (fun hq => ?_)
     have := hmono y ((a + b) / 2) (by omega) hm9 (by omega) hq
     omega
    ·show b - ((a + b) / 2 + 1) < b - a; omega
   ·replace hc2 := dF hc2
    simp only [List.get_eq_getElem] at hc2
    refine C_region (l := [0, 1]) rfl ?_
    refine Y_move ?_
    refine Y_assign ?_
    refine XD_end ?_
    refine K_out ?_
    refine K_roundS (a' := [(9, _), (10, _)]) ((a, (a + b) / 2)) (.cons (k := 9) rfl (.cons (k := 10) rfl (.cons (k := 8) rfl (.cons (k := 7) rfl (.cons (k := 6) rfl (.cons (k := 0) rfl (.cons (k := 1) rfl (.cons (k := 2) rfl (.nil))))))))) (fun w hw => by first | exact hw | exact hw.c) ?_ ?_
    ·exact ⟨rfl, (by show a ≤ (a + b) / 2; omega), (by show (a + b) / 2 ≤ l.l.length; omega), h3, fun _ => by rw [bsP_at hm9]; exact decide_eq_true (by omega)⟩
    ·show (a + b) / 2 - a < b - a; omega
  ·replace hc1 := dF hc1
   refine C_exit ?_
   iterate 2 refine K_exit ?_
   refine K_hit ?_
   refine K_then ?_
   refine Y_pk [9, 8, 7, 6, 0, 1, 2] ?_
   refine C_seq ?_
   refine C_region (l := [0, 1, 2, 3, 4, 5, 6, 7, 8, 9, 10, 11, 12, 13, 14, 15]) rfl ?_
   iterate 3 refine Y_move ?_
   refine Y_cmp ?_
   refine Y_move ?_
   refine XD_part 39 rfl (fun hc3 => ?_) (fun hc3 => ?_)
   ·replace hc3 := dT hc3
    iterate 3 refine Y_move ?_
    refine X_indexAddr rfl rfl rfl rfl F.elem35 (by rfl) (by omega) (by exact RdS.plain (by assumption) (by (simp; omega))) rfl ?_
    refine X_load_rd rfl rfl rfl (by assumption) (by exact row_map (by omega)) F.lay70 rfl rfl rfl ?_
    refine Y_move ?_
    refine X_foV rfl rfl rfl hok rfl rfl (hc _ (List.getElem_mem (n := a) (by omega))) (by repeat first | exact Rem.here _ | exact Rem.two | apply Rem.skip | apply Rem.over) (putE_some rfl) ?_
    rintro _ M1 _ ⟨hM1, rfl⟩; subst M1
    refine Y_cmp ?_
    refine Y_pick ?_
    iterate 2 refine Y_assign ?_
    refine XD_end ?_
    refine K_then ?_
    refine Y_pk [7, 6] ?_
    refine C_ret ?_
    refine K_end (.inr rfl) (.tmp rfl (.tmp rfl .nil)) (fun w hw => ?_)
    obtain rfl : a = b := by omega
    have hat : bsAt cmp l.l = a := firstP_at h2 h3 h4
    refine ⟨_, M, rfl, Mem.le.refl M, hw.c, rfl, ?_⟩
    clear hw
    rw [hat]
    (rw [bsIs_lt hat (by omega)]; rfl)
   ·replace hc3 := dF hc3
    iterate 8 refine Y_skip ?_
    refine Y_pick ?_
    iterate 2 refine Y_assign ?_
    refine XD_end ?_
    refine K_then ?_
    refine Y_pk [7, 6] ?_
    refine C_ret ?_
    refine K_end (.inr rfl) (.tmp rfl (.tmp rfl .nil)) (fun w hw => ?_)
    obtain rfl : a = b := by omega
    have hat : bsAt cmp l.l = a := firstP_at h2 h3 h4
    refine ⟨_, M, rfl, Mem.le.refl M, hw.c, rfl, ?_⟩
    clear hw
    rw [hat]
    (rw [bsIs_ge hat (by omega)]; rfl)

end Go.Proofs.Ytbafnjniijodfaa
/-
  What a cell is.
-/
set_option linter.unusedSimpArgs false
set_option linter.unusedVariables false
set_option linter.unnecessarySimpa false
set_option maxRecDepth 8000
set_option maxHeartbeats 1000000
namespace Go.Proofs.Ytbafnjniijodfaa
open Go.Esp
theorem F.foff37_1 : foff Try.prog 37 1 = some 1 := by kernel_rfl
theorem F.foff37_2 : foff Try.prog 37 2 = some 2 := by kernel_rfl
theorem F.foff37_3 : foff Try.prog 37 3 = some 3 := by kernel_rfl
theorem F.foff68_0 : foff Try.prog 68 0 = some 0 := by kernel_rfl
theorem F.foff68_3 : foff Try.prog 68 3 = some 3 := by kernel_rfl
theorem F.foff70_0 : foff Try.prog 70 0 = some 0 := by kernel_rfl
theorem F.foff70_2 : foff Try.prog 70 2 = some 2 := by kernel_rfl
theorem F.lay25 : lay Try.prog 25 = some (false, 1) := by kernel_rfl
theorem F.lay35 : lay Try.prog 35 = some (false, 1) := by kernel_rfl
theorem F.lay4 : lay Try.prog 4 = some (false, 1) := by kernel_rfl
theorem F.lay68 : lay Try.prog 68 = some (true, 4) := by kernel_rfl
theorem F.lay9 : lay Try.prog 9 = some (false, 1) := by kernel_rfl
theorem F.ok61 : okFn Try.prog 61 = true := by kernel_rfl
theorem F.ok62 : okFn Try.prog 62 = true := by kernel_rfl
theorem F.ok63 : okFn Try.prog 63 = true := by kernel_rfl
theorem F.zero68 : zeroOf Try.prog 68 = some (aggV [.one (.int .i64 0), .one (.int .u64 0), .one (.bool false), .one (.string ⟨#[]⟩)]) := by kernel_rfl

theorem val_ok (M : Mem) (s : ByteArray) (has : Bool) : Fs Try.prog 61 [.string s, .bool has] M (fun v => v = Value.bool (decide (ValOk s has))) := by
  refine fs_enter Try.func61 rfl Try.ntmps61 rfl ?_; intro H
  refine C_seq ?_
  refine C_region (l := [0]) rfl ?_
  refine Y_assign ?_
  refine XD_end ?_
  refine K_then ?_
  refine C_seq ?_
  refine C_region (l := [0, 1, 2, 3, 4, 5, 6, 7, 8, 9, 10]) rfl ?_
  refine Y_move ?_
  refine Y_len_str Try.underlying9 ?_
  refine Y_cmp ?_
  refine Y_move ?_
  refine XD_part 8 rfl (fun hc1 => ?_) (fun hc1 => ?_)
  ·replace hc1 := dT hc1
   iterate 2 refine Y_move ?_
   refine XD_part 10 rfl (fun hc2 => ?_) (fun hc2 => ?_)
   ·skip
    iterate 2 refine Y_skip ?_
    iterate 2 refine Y_pick ?_
    refine Y_assign ?_
    refine XD_end ?_
    refine K_then ?_
    refine Y_pk [4] ?_
    refine C_ret ?_
    refine K_end (.inr rfl) (.tmp rfl .nil) (fun w hw => ?_)
    refine ⟨_, rfl, (hw.c), ?_⟩
    clear hw
    refine congrArg Value.bool ?_
    (simp_all [ValOk]; done)
   ·skip
    refine Y_move ?_
    refine Y_str ?_
    iterate 2 refine Y_pick ?_
    refine Y_assign ?_
    refine XD_end ?_
    refine K_then ?_
    refine Y_pk [4] ?_
    refine C_ret ?_
    refine K_end (.inr rfl) (.tmp rfl .nil) (fun w hw => ?_)
    refine ⟨_, rfl, (hw.c), ?_⟩
    clear hw
    refine congrArg Value.bool ?_
    (simp_all [ValOk]; done)
  ·replace hc1 := dF hc1
   iterate 5 refine Y_skip ?_
   refine Y_pick ?_
   refine Y_assign ?_
   refine XD_end ?_
   refine K_then ?_
   refine Y_pk [4] ?_
   refine C_ret ?_
   refine K_end (.inr rfl) (.tmp rfl .nil) (fun w hw => ?_)
   refine ⟨_, rfl, (hw.c), ?_⟩
   clear hw
   refine congrArg Value.bool ?_
   exact (decide_eq_false (fun h9 => by unfold ValOk at h9; omega)).symm

theorem rVal_ok (M : Mem) (s : ByteArray) (has : Bool) : Fs Try.prog 62 [.string s, .bool has] M (fun v => v = Value.bool (decide (ValOk s has))) := by
  refine fs_enter Try.func62 rfl Try.ntmps62 rfl ?_; intro H
  refine C_seq ?_
  refine C_region (l := [0]) rfl ?_
  refine Y_assign ?_
  refine XD_end ?_
  refine K_then ?_
  refine C_seq ?_
  refine C_region (l := [0, 1, 2, 3, 4, 5, 6, 7, 8, 9, 10]) rfl ?_
  refine Y_move ?_
  refine Y_len_str Try.underlying9 ?_
  refine Y_cmp ?_
  refine Y_move ?_
  refine XD_part 8 rfl (fun hc1 => ?_) (fun hc1 => ?_)
  ·replace hc1 := dT hc1
   iterate 2 refine Y_move ?_
   refine XD_part 10 rfl (fun hc2 => ?_) (fun hc2 => ?_)
   ·skip
    iterate 2 refine Y_skip ?_
    iterate 2 refine Y_pick ?_
    refine Y_assign ?_
    refine XD_end ?_
    refine K_then ?_
    refine Y_pk [4] ?_
    refine C_ret ?_
    refine K_end (.inr rfl) (.tmp rfl .nil) (fun w hw => ?_)
    refine ⟨_, rfl, (hw.c), ?_⟩
    clear hw
    refine congrArg Value.bool ?_
    (simp_all [ValOk]; done)
   ·skip
    refine Y_move ?_
    refine Y_str ?_
    iterate 2 refine Y_pick ?_
    refine Y_assign ?_
    refine XD_end ?_
    refine K_then ?_
    refine Y_pk [4] ?_
    refine C_ret ?_
    refine K_end (.inr rfl) (.tmp rfl .nil) (fun w hw => ?_)
    refine ⟨_, rfl, (hw.c), ?_⟩
    clear hw
    refine congrArg Value.bool ?_
    (simp_all [ValOk]; done)
  ·replace hc1 := dF hc1
   iterate 5 refine Y_skip ?_
   refine Y_pick ?_
   refine Y_assign ?_
   refine XD_end ?_
   refine K_then ?_
   refine Y_pk [4] ?_
   refine C_ret ?_
   refine K_end (.inr rfl) (.tmp rfl .nil) (fun w hw => ?_)
   refine ⟨_, rfl, (hw.c), ?_⟩
   clear hw
   refine congrArg Value.bool ?_
   exact (decide_eq_false (fun h9 => by unfold ValOk at h9; omega)).symm

theorem rIsAns_ok (M : Mem) (a : AnswerV) : Fs Try.prog 63 [a.enc] M (fun v => v = Value.bool (decide (AnsOk a))) := by
  obtain ⟨a_code, a_version, a_has, a_val⟩ := a
  refine fs_enter Try.func63 rfl Try.ntmps63 rfl ?_; intro H
  refine C_seq ?_
  refine C_region (l := [0, 1]) rfl ?_
  refine Y_box ?_; intro b1
  refine Y_assign ?_
  refine XD_end ?_
  refine K_then ?_
  refine Y_pk [2, 1] ?_
  refine C_seq ?_
  refine C_region (l := [0, 1, 2, 3, 4, 5, 6, 7, 8, 9, 10, 11, 12, 13]) rfl ?_
  refine Y_fieldAddr F.foff68_3 ?_
  refine Y_load F.lay9 ?_
  refine Y_str ?_
  refine Y_move ?_
  refine XD_part 6 rfl (fun hc2 => ?_) (fun hc2 => ?_)
  ·replace hc2 := dT hc2
   refine Y_fieldAddr F.foff68_0 ?_
   refine Y_load F.lay25 ?_
   refine Y_cmp ?_
   refine Y_move ?_
   refine XD_part 10 rfl (fun hc3 => ?_) (fun hc3 => ?_)
   ·replace hc3 := dT hc3
    iterate 3 refine Y_skip ?_
    iterate 2 refine Y_pick ?_
    refine Y_assign ?_
    refine XD_end ?_
    refine K_then ?_
    refine Y_pk [2] ?_
    refine C_ret ?_
    refine K_end (.inr rfl) (.tmp rfl .nil) (fun w hw => ?_)
    refine ⟨_, rfl, (hw.c), ?_⟩
    clear hw
    refine congrArg Value.bool ?_
    simp_all [AnsOk]
   ·replace hc3 := dF hc3
    refine Y_fieldAddr F.foff68_0 ?_
    refine Y_load F.lay25 ?_
    refine Y_cmp ?_
    iterate 2 refine Y_pick ?_
    refine Y_assign ?_
    refine XD_end ?_
    refine K_then ?_
    refine Y_pk [2] ?_
    refine C_ret ?_
    refine K_end (.inr rfl) (.tmp rfl .nil) (fun w hw => ?_)
    refine ⟨_, rfl, (hw.c), ?_⟩
    clear hw
    refine congrArg Value.bool ?_
    simp_all [AnsOk]
  ·replace hc2 := dF hc2
   iterate 8 refine Y_skip ?_
   refine Y_pick ?_
   refine Y_assign ?_
   refine XD_end ?_
   refine K_then ?_
   refine Y_pk [2] ?_
   refine C_ret ?_
   refine K_end (.inr rfl) (.tmp rfl .nil) (fun w hw => ?_)
   refine ⟨_, rfl, (hw.c), ?_⟩
   clear hw
   refine congrArg Value.bool ?_
   simp_all [AnsOk]

theorem CelIs_ok (M : Mem) (c : CellV) (hc0 : CellV.ok M c) : Fs Try.prog 41 [c.enc] M (fun v => v = Value.bool (decide (IsCel c.pl))) := by
  obtain ⟨c_version, c_has, c_val, ⟨c_marks_a, c_marks_c, c_marks_l⟩⟩ := c
  have k_c_marks : SlK M MarkV.segs 6 ⟨c_marks_a, c_marks_c, c_marks_l⟩ := hc0.h0
  have s_c_marks : SlM M c_marks_a (c_marks_l.map MarkV.segs) 6 := k_c_marks.h1
  have n_c_marks : (c_marks_l.map MarkV.segs).length = c_marks_l.length := List.length_map ..
  have m_c_marks : c_marks_l.length ≤ 9223372036854775807 := k_c_marks.h2
  have c_c_marks : c_marks_l.length ≤ c_marks_c := k_c_marks.h3
  refine fs_enter Try.func41 rfl Try.ntmps41 rfl ?_; intro H
  refine C_seq ?_
  refine C_region (l := [0, 1]) rfl ?_
  refine Y_box ?_; intro b1
  refine Y_assign ?_
  refine XD_end ?_
  refine K_then ?_
  refine Y_pk [2, 1] ?_
  refine C_seq ?_
  refine C_region (l := [0]) rfl ?_
  refine Y_assign ?_
  refine XD_end ?_
  refine K_then ?_
  iterate 2 refine C_seq ?_
  refine C_region (l := [0, 1, 2, 3]) rfl ?_
  refine Y_fieldAddr F.foff37_3 ?_
  refine Y_load F.lay35 ?_
  refine Y_len_sl F.elem35 ?_
  refine Y_move ?_
  refine XD_end ?_
  refine K_then ?_
  refine Y_pk [10, 9, 8, 3, 2, 1] ?_
  refine C_block ?_
  refine Y_pk [10, 3, 9, 8, 2, 1] ?_
  refine C_loopS (.succ (.succ .zero)) (fun (k : Nat) z => ∃ (last : Int), z = [(10, .int .i64 (k : Int)), (3, .int .i64 last)] ∧ k ≤ c_marks_l.length ∧ (MarksOk (c_marks_l.take k) ∧ (k = 0 → last = -1) ∧ (0 < k → (c_marks_l[k - 1]?).map MarkV.client = some last))) (fun k => c_marks_l.length - k) (0) (⟨-1, rfl, by omega, by (refine ⟨⟨fun m hm => by simp at hm, by simp⟩, fun _ => rfl, fun h => by omega⟩)⟩) ?_
  rintro k _ ⟨last, rfl, hk, hI⟩
  refine C_seq ?_
  refine C_region (l := [0]) rfl ?_
  refine Y_cmp ?_
  refine XD_end ?_
  refine K_then ?_
  refine C_seq ?_
  refine C_cond rfl (fun hc2 => ?_) (fun hc2 => ?_)
  ·replace hc2 := dT hc2
   refine C_skip ?_
   refine K_then ?_
   refine C_seq ?_
   refine C_block ?_
   refine C_seq ?_
   refine C_region (l := [0, 1, 2, 3]) rfl ?_
   refine X_indexAddr rfl rfl rfl rfl F.elem35 (by rfl) (by omega) (by exact SlM.plain (by assumption) (by (simp; omega))) rfl ?_
   refine X_load_el rfl rfl rfl (by assumption) (by exact row_map (by omega)) F.lay70 rfl rfl rfl ?_
   refine Y_alloc F.zero70 ?_; intro b3
   refine Y_store F.lay70 ?_
   refine XD_end ?_
   refine K_then ?_
   refine C_seq ?_
   refine C_region (l := [0, 1, 2, 3]) rfl ?_
   refine Y_fieldAddr F.foff70_2 ?_
   refine Y_load F.lay68 ?_
   refine Y_alloc F.zero68 ?_; intro b4
   refine Y_store F.lay68 ?_
   refine XD_end ?_
   refine K_then ?_
   iterate 2 refine C_seq ?_
   refine C_region (l := [0, 1, 2, 3, 4, 5, 6, 7, 8, 9, 10, 11, 12, 13, 14, 15, 16, 17, 18, 19, 20, 21, 22, 23]) rfl ?_
   refine Y_fieldAddr F.foff70_0 ?_
   refine Y_load F.lay3 ?_
   refine Y_move ?_
   refine Y_cmp ?_
   refine Y_move ?_
   refine XD_part 20 rfl (fun hc5 => ?_) (fun hc5 => ?_)
   ·replace hc5 := dT hc5
    simp only [List.get_eq_getElem] at hc5
    iterate 3 refine Y_skip ?_
    refine Y_pick ?_
    refine Y_move ?_
    iterate 3 refine Y_skip ?_
    refine Y_pick ?_
    refine Y_move ?_
    iterate 8 refine Y_skip ?_
    refine Y_pick ?_
    refine XD_end ?_
    refine K_then ?_
    refine C_true rfl ?_
    refine C_seq ?_
    refine C_region (l := [0]) rfl ?_
    refine Y_assign ?_
    refine XD_end ?_
    refine K_then ?_
    refine C_ret ?_
    refine K_ret ?_
    refine K_retB ?_
    iterate 2 refine K_ret ?_
    refine K_retB ?_
    refine K_ret ?_
    refine K_end (.inr rfl) (.tmp rfl .nil) (fun w hw => ?_)
    refine ⟨_, rfl, (hw.c), ?_⟩
    clear hw
    refine congrArg Value.bool (decide_eq_false (fun h9 => ?_)).symm
    have hv9 : ValOk c_val c_has := h9.1
    have hm9 : MarksOk c_marks_l := h9.2
    have hl9 : 0 < k → (c_marks_l[k - 1]'(by omega)).client = last := fun h0 => by
     have h8 := hI.2.2 h0
     rw [List.getElem?_eq_getElem (by omega)] at h8
     exact Option.some.inj h8
    obtain ⟨_, ⟨⟨g1, g2⟩, g3, g4⟩, g5⟩ := (marks_take (l := c_marks_l) (k := k) (by omega)).1 (marks_pre hm9 (k + 1))
    rcases Nat.eq_zero_or_pos k with h0 | h0
    ·have h1 := hI.2.1 h0
     omega
    ·have h1 := hl9 h0
     have h2 := g5 h0
     omega
   ·replace hc5 := dF hc5
    simp only [List.get_eq_getElem] at hc5
    refine Y_fieldAddr F.foff70_0 ?_
    refine Y_load F.lay3 ?_
    refine Y_cmp ?_
    refine Y_pick ?_
    refine Y_move ?_
    refine XD_part 25 rfl (fun hc6 => ?_) (fun hc6 => ?_)
    ·replace hc6 := dT hc6
     simp only [List.get_eq_getElem] at hc6
     iterate 3 refine Y_skip ?_
     refine Y_pick ?_
     refine Y_move ?_
     iterate 8 refine Y_skip ?_
     refine Y_pick ?_
     refine XD_end ?_
     refine K_then ?_
     refine C_true rfl ?_
     refine C_seq ?_
     refine C_region (l := [0]) rfl ?_
     refine Y_assign ?_
     refine XD_end ?_
     refine K_then ?_
     refine C_ret ?_
     refine K_ret ?_
     refine K_retB ?_
     iterate 2 refine K_ret ?_
     refine K_retB ?_
     refine K_ret ?_
     refine K_end (.inr rfl) (.tmp rfl .nil) (fun w hw => ?_)
     refine ⟨_, rfl, (hw.c), ?_⟩
     clear hw
     refine congrArg Value.bool (decide_eq_false (fun h9 => ?_)).symm
     have hv9 : ValOk c_val c_has := h9.1
     have hm9 : MarksOk c_marks_l := h9.2
     have hl9 : 0 < k → (c_marks_l[k - 1]'(by omega)).client = last := fun h0 => by
      have h8 := hI.2.2 h0
      rw [List.getElem?_eq_getElem (by omega)] at h8
      exact Option.some.inj h8
     obtain ⟨_, ⟨⟨g1, g2⟩, g3, g4⟩, g5⟩ := (marks_take (l := c_marks_l) (k := k) (by omega)).1 (marks_pre hm9 (k + 1))
     rcases Nat.eq_zero_or_pos k with h0 | h0
     ·have h1 := hI.2.1 h0
      omega
     ·have h1 := hl9 h0
      have h2 := g5 h0
      omega
    ·replace hc6 := dF hc6
     simp only [List.get_eq_getElem] at hc6
     refine Y_fieldAddr F.foff68_3 ?_
     refine Y_load F.lay9 ?_
     refine Y_str ?_
     refine Y_pick ?_
     refine Y_move ?_
     refine XD_part 30 rfl (fun hc7 => ?_) (fun hc7 => ?_)
     ·replace hc7 := nT hc7
      simp only [List.get_eq_getElem] at hc7
      iterate 8 refine Y_skip ?_
      refine Y_pick ?_
      refine XD_end ?_
      refine K_then ?_
      refine C_true rfl ?_
      refine C_seq ?_
      refine C_region (l := [0]) rfl ?_
      refine Y_assign ?_
      refine XD_end ?_
      refine K_then ?_
      refine C_ret ?_
      refine K_ret ?_
      refine K_retB ?_
      iterate 2 refine K_ret ?_
      refine K_retB ?_
      refine K_ret ?_
      refine K_end (.inr rfl) (.tmp rfl .nil) (fun w hw => ?_)
      refine ⟨_, rfl, (hw.c), ?_⟩
      clear hw
      refine congrArg Value.bool (decide_eq_false (fun h9 => ?_)).symm
      have hv9 : ValOk c_val c_has := h9.1
      have hm9 : MarksOk c_marks_l := h9.2
      have hl9 : 0 < k → (c_marks_l[k - 1]'(by omega)).client = last := fun h0 => by
       have h8 := hI.2.2 h0
       rw [List.getElem?_eq_getElem (by omega)] at h8
       exact Option.some.inj h8
      obtain ⟨_, ⟨⟨g1, g2⟩, g3, g4⟩, g5⟩ := (marks_take (l := c_marks_l) (k := k) (by omega)).1 (marks_pre hm9 (k + 1))
      rcases Nat.eq_zero_or_pos k with h0 | h0
      ·have h1 := hI.2.1 h0
       contradiction
      ·have h1 := hl9 h0
       have h2 := g5 h0
       contradiction
     ·replace hc7 := nF hc7
      simp only [List.get_eq_getElem] at hc7
      refine Y_fieldAddr F.foff68_0 ?_
      refine Y_load F.lay25 ?_
      refine Y_cmp ?_
      refine Y_move ?_
      refine XD_part 34 rfl (fun hc8 => ?_) (fun hc8 => ?_)
      ·replace hc8 := nT hc8
       simp only [List.get_eq_getElem] at hc8
       refine Y_fieldAddr F.foff68_0 ?_
       refine Y_load F.lay25 ?_
       refine Y_cmp ?_
       iterate 2 refine Y_pick ?_
       refine XD_end ?_
       refine K_then ?_
       refine C_cond rfl (fun hc9 => ?_) (fun hc9 => ?_)
       ·replace hc9 := nT hc9
        simp only [List.get_eq_getElem] at hc9
        refine C_seq ?_
        refine C_region (l := [0]) rfl ?_
        refine Y_assign ?_
        refine XD_end ?_
        refine K_then ?_
        refine C_ret ?_
        refine K_ret ?_
        refine K_retB ?_
        iterate 2 refine K_ret ?_
        refine K_retB ?_
        refine K_ret ?_
        refine K_end (.inr rfl) (.tmp rfl .nil) (fun w hw => ?_)
        refine ⟨_, rfl, (hw.c), ?_⟩
        clear hw
        refine congrArg Value.bool (decide_eq_false (fun h9 => ?_)).symm
        have hv9 : ValOk c_val c_has := h9.1
        have hm9 : MarksOk c_marks_l := h9.2
        have hl9 : 0 < k → (c_marks_l[k - 1]'(by omega)).client = last := fun h0 => by
         have h8 := hI.2.2 h0
         rw [List.getElem?_eq_getElem (by omega)] at h8
         exact Option.some.inj h8
        obtain ⟨_, ⟨⟨g1, g2⟩, g3, g4⟩, g5⟩ := (marks_take (l := c_marks_l) (k := k) (by omega)).1 (marks_pre hm9 (k + 1))
        rcases Nat.eq_zero_or_pos k with h0 | h0
        ·have h1 := hI.2.1 h0
         (simp_all; done)
        ·have h1 := hl9 h0
         have h2 := g5 h0
         (simp_all; done)
       ·replace hc9 := nF hc9
        simp only [List.get_eq_getElem] at hc9
        refine C_skip ?_
        refine K_then ?_
        refine C_region (l := [0, 1, 2]) rfl ?_
        refine Y_fieldAddr F.foff70_0 ?_
        refine Y_load F.lay3 ?_
        refine Y_assign ?_
        refine XD_end ?_
        refine K_out ?_
        refine K_then ?_
        refine C_region (l := [0, 1]) rfl ?_
        refine X_ari rfl rfl rfl rfl rfl (by exact wrap_in (by decide) (by omega)) rfl ?_
        refine Y_move ?_
        refine XD_end ?_
        have hl9 : 0 < k → (c_marks_l[k - 1]'(by omega)).client = last := fun h0 => by
         have h8 := hI.2.2 h0
         rw [List.getElem?_eq_getElem (by omega)] at h8
         exact Option.some.inj h8
        refine K_roundS (a' := [(10, _), (3, _)]) (k + 1) (.cons (k := 10) rfl (.cons (k := 3) rfl (.cons (k := 9) rfl (.cons (k := 8) rfl (.cons (k := 2) rfl (.cons (k := 1) rfl (.nil))))))) (fun w hw => by first | exact hw | exact hw.c) ?_ ?_
        ·refine ⟨_, rfl, by omega, ?_⟩
         (refine ⟨?_, ?_, ?_⟩)
         ·rw [marks_take (by omega)]
          refine ⟨hI.1, ⟨⟨?_, by omega⟩, ?_⟩, fun h0 => ?_⟩
          ·rcases Nat.eq_zero_or_pos k with h0 | h0
           ·have h1 := hI.2.1 h0; omega
           ·have h1 := hl9 h0; have h2 := (hI.1.1 _ (show c_marks_l[k - 1] ∈ c_marks_l.take k by rw [List.mem_take_iff_getElem]; exact ⟨k - 1, by omega, rfl⟩)).1.1; omega
          ·unfold AnsOk; simp_all
          ·have h1 := hl9 h0; omega
         ·intro h0; omega
         ·intro h0; rw [show k + 1 - 1 = k by omega, List.getElem?_eq_getElem (by omega)]; rfl
        ·omega
      ·replace hc8 := nF hc8
       simp only [List.get_eq_getElem] at hc8
       iterate 3 refine Y_skip ?_
       iterate 2 refine Y_pick ?_
       refine XD_end ?_
       refine K_then ?_
       refine C_false rfl ?_
       refine C_skip ?_
       refine K_then ?_
       refine C_region (l := [0, 1, 2]) rfl ?_
       refine Y_fieldAddr F.foff70_0 ?_
       refine Y_load F.lay3 ?_
       refine Y_assign ?_
       refine XD_end ?_
       refine K_out ?_
       refine K_then ?_
       refine C_region (l := [0, 1]) rfl ?_
       refine X_ari rfl rfl rfl rfl rfl (by exact wrap_in (by decide) (by omega)) rfl ?_
       refine Y_move ?_
       refine XD_end ?_
       have hl9 : 0 < k → (c_marks_l[k - 1]'(by omega)).client = last := fun h0 => by
        have h8 := hI.2.2 h0
        rw [List.getElem?_eq_getElem (by omega)] at h8
        exact Option.some.inj h8
       refine K_roundS (a' := [(10, _), (3, _)]) (k + 1) (.cons (k := 10) rfl (.cons (k := 3) rfl (.cons (k := 9) rfl (.cons (k := 8) rfl (.cons (k := 2) rfl (.cons (k := 1) rfl (.nil))))))) (fun w hw => by first | exact hw | exact hw.c) ?_ ?_
       ·refine ⟨_, rfl, by omega, ?_⟩
        (refine ⟨?_, ?_, ?_⟩)
        ·rw [marks_take (by omega)]
         refine ⟨hI.1, ⟨⟨?_, by omega⟩, ?_⟩, fun h0 => ?_⟩
         ·rcases Nat.eq_zero_or_pos k with h0 | h0
          ·have h1 := hI.2.1 h0; omega
          ·have h1 := hl9 h0; have h2 := (hI.1.1 _ (show c_marks_l[k - 1] ∈ c_marks_l.take k by rw [List.mem_take_iff_getElem]; exact ⟨k - 1, by omega, rfl⟩)).1.1; omega
         ·unfold AnsOk; simp_all
         ·have h1 := hl9 h0; omega
        ·intro h0; omega
        ·intro h0; rw [show k + 1 - 1 = k by omega, List.getElem?_eq_getElem (by omega)]; rfl
       ·omega
  ·replace hc2 := dF hc2
   refine C_exit ?_
   iterate 2 refine K_exit ?_
   refine K_hit ?_
   refine K_then ?_
   refine Y_pk [2, 1] ?_
   refine C_seq ?_
   refine C_region (l := [0, 1, 2, 3, 4, 5]) rfl ?_
   refine Y_fieldAddr F.foff37_2 ?_
   refine Y_load F.lay9 ?_
   refine Y_fieldAddr F.foff37_1 ?_
   refine Y_load F.lay4 ?_
   refine X_fs rfl rfl F.ok61 rfl (val_ok _ _ _) rfl ?_
   rintro _ rfl
   refine Y_assign ?_
   refine XD_end ?_
   refine K_then ?_
   refine Y_pk [2] ?_
   refine C_ret ?_
   refine K_end (.inr rfl) (.tmp rfl .nil) (fun w hw => ?_)
   refine ⟨_, rfl, (hw.c), ?_⟩
   clear hw
   obtain rfl : k = c_marks_l.length := by omega
   rw [List.take_length] at hI
   exact congrArg Value.bool (decide_eq_decide.2 ⟨fun h9 => ⟨h9, hI.1⟩, fun h9 => h9.1⟩)

theorem rCelIs_ok (M : Mem) (c : CellV) (hc0 : CellV.ok M c) : Fs Try.prog 43 [c.enc] M (fun v => v = Value.bool (decide (IsCel c.pl))) := by
  obtain ⟨c_version, c_has, c_val, ⟨c_marks_a, c_marks_c, c_marks_l⟩⟩ := c
  have k_c_marks : SlK M MarkV.segs 6 ⟨c_marks_a, c_marks_c, c_marks_l⟩ := hc0.h0
  have s_c_marks : SlM M c_marks_a (c_marks_l.map MarkV.segs) 6 := k_c_marks.h1
  have n_c_marks : (c_marks_l.map MarkV.segs).length = c_marks_l.length := List.length_map ..
  have m_c_marks : c_marks_l.length ≤ 9223372036854775807 := k_c_marks.h2
  have c_c_marks : c_marks_l.length ≤ c_marks_c := k_c_marks.h3
  refine fs_enter Try.func43 rfl Try.ntmps43 rfl ?_; intro H
  refine C_seq ?_
  refine C_region (l := [0, 1]) rfl ?_
  refine Y_box ?_; intro b1
  refine Y_assign ?_
  refine XD_end ?_
  refine K_then ?_
  refine Y_pk [2, 1] ?_
  iterate 2 refine C_seq ?_
  refine C_region (l := [0, 1, 2, 3, 4, 5]) rfl ?_
  refine Y_fieldAddr F.foff37_2 ?_
  refine Y_load F.lay9 ?_
  refine Y_fieldAddr F.foff37_1 ?_
  refine Y_load F.lay4 ?_
  refine X_fs rfl rfl F.ok62 rfl (rVal_ok _ _ _) rfl ?_
  rintro _ rfl
  refine Y_not ?_
  refine XD_end ?_
  refine K_then ?_
  refine Y_pk [10, 2, 1] ?_
  refine C_cond rfl (fun hc2 => ?_) (fun hc2 => ?_)
  ·replace hc2 := nT hc2
   refine C_seq ?_
   refine C_region (l := [0]) rfl ?_
   refine Y_assign ?_
   refine XD_end ?_
   refine K_then ?_
   refine Y_pk [2, 1] ?_
   refine C_ret ?_
   refine K_ret ?_
   refine K_end (.inr rfl) (.tmp rfl .nil) (fun w hw => ?_)
   refine ⟨_, rfl, (hw.c), ?_⟩
   clear hw
   refine congrArg Value.bool (decide_eq_false (fun h9 => ?_)).symm
   have hv9 : ValOk c_val c_has := h9.1
   have hm9 : MarksOk c_marks_l := h9.2
   contradiction
  ·replace hc2 := nF hc2
   refine C_skip ?_
   refine K_then ?_
   refine Y_pk [2, 1] ?_
   iterate 2 refine C_seq ?_
   refine C_region (l := [0]) rfl ?_
   refine Y_assign ?_
   refine XD_end ?_
   refine K_then ?_
   refine C_block ?_
   refine Y_pk [3, 2, 1] ?_
   refine C_loopS (.succ .zero) (fun (k : Nat) z => z = [(3, .int .i64 (k : Int))] ∧ k ≤ c_marks_l.length ∧ (ValOk c_val c_has ∧ MarksOk (c_marks_l.take k))) (fun k => c_marks_l.length - k) (0) (⟨rfl, by omega, by (refine ⟨by assumption, fun m hm => by simp at hm, by simp⟩)⟩) ?_
   rintro k _ ⟨rfl, hk, hI⟩
   iterate 2 refine C_seq ?_
   refine C_region (l := [0, 1, 2, 3, 4]) rfl ?_
   refine Y_move ?_
   refine Y_fieldAddr F.foff37_3 ?_
   refine Y_load F.lay35 ?_
   refine Y_len_sl F.elem35 ?_
   refine Y_cmp ?_
   refine XD_end ?_
   refine K_then ?_
   refine C_cond rfl (fun hc3 => ?_) (fun hc3 => ?_)
   ·replace hc3 := dT hc3
    refine C_skip ?_
    refine K_then ?_
    refine C_seq ?_
    refine C_block ?_
    refine C_seq ?_
    refine C_region (l := [0, 1, 2, 3, 4, 5, 6]) rfl ?_
    refine Y_fieldAddr F.foff37_3 ?_
    refine Y_load F.lay35 ?_
    refine Y_move ?_
    refine X_indexAddr rfl rfl rfl rfl F.elem35 (by rfl) (by omega) (by exact SlM.plain (by assumption) (by (simp; omega))) rfl ?_
    refine X_load_el rfl rfl rfl (by assumption) (by exact row_map (by omega)) F.lay70 rfl rfl rfl ?_
    refine Y_alloc F.zero70 ?_; intro b4
    refine Y_store F.lay70 ?_
    refine XD_end ?_
    refine K_then ?_
    refine C_seq ?_
    refine C_region_any (l := [0, 1, 2, 3, 4, 5, 6, 7, 8, 9, 10, 11, 12, 13, 14, 15, 16, 17, 18, 19, 20, 21, 22, 23, 24, 25, 26, 27, 28, 29]) #[0, 1, 3, 7, 15, 31, 63, 127, 255, 511, 1023, 2047, 4095, 8191, 4095, 20479, 65535, 131071, 262143, 4095, 528383, 2097151, 4194303, 8388607, 16777215, 33554431, 67108863, 134217727, 268435455, 536870911] _ rfl (by kernel_rfl) (by kernel_rfl) St.drawn (fun _ h => h) ?_
    refine Y_fieldAddr F.foff70_0 ?_
    refine Y_load F.lay3 ?_
    refine Y_cmp ?_
    refine Y_move ?_
    refine XD_part 26 rfl (fun hc5 => ?_) (fun hc5 => ?_)
    ·replace hc5 := dT hc5
     simp only [List.get_eq_getElem] at hc5
     iterate 3 refine Y_skip ?_
     refine Y_pick ?_
     refine Y_move ?_
     iterate 14 refine Y_skip ?_
     refine Y_pick ?_
     refine Y_move ?_
     iterate 4 refine Y_skip ?_
     refine Y_pick ?_
     refine XD_end ?_
     refine K_then ?_
     refine C_true rfl ?_
     refine C_seq ?_
     refine C_region (l := [0]) rfl ?_
     refine Y_assign ?_
     refine XD_end ?_
     refine K_then ?_
     refine C_ret ?_
     refine K_retB ?_
     iterate 2 refine K_ret ?_
     refine K_retB ?_
     refine K_ret ?_
     refine K_end (.inr rfl) (.tmp rfl .nil) (fun w hw => ?_)
     refine ⟨_, rfl, (hw.c), ?_⟩
     clear hw
     refine congrArg Value.bool (decide_eq_false (fun h9 => ?_)).symm
     have hv9 : ValOk c_val c_has := h9.1
     have hm9 : MarksOk c_marks_l := h9.2
     obtain ⟨_, ⟨⟨g1, g2⟩, g3, g4⟩, g5⟩ := (marks_take (l := c_marks_l) (k := k) (by omega)).1 (marks_pre hm9 (k + 1))
     omega
    ·replace hc5 := dF hc5
     simp only [List.get_eq_getElem] at hc5
     refine Y_fieldAddr F.foff70_0 ?_
     refine Y_load F.lay3 ?_
     refine Y_cmp ?_
     refine Y_pick ?_
     refine Y_move ?_
     refine XD_part 31 rfl (fun hc6 => ?_) (fun hc6 => ?_)
     ·replace hc6 := dT hc6
      simp only [List.get_eq_getElem] at hc6
      iterate 14 refine Y_skip ?_
      refine Y_pick ?_
      refine Y_move ?_
      iterate 4 refine Y_skip ?_
      refine Y_pick ?_
      refine XD_end ?_
      refine K_then ?_
      refine C_true rfl ?_
      refine C_seq ?_
      refine C_region (l := [0]) rfl ?_
      refine Y_assign ?_
      refine XD_end ?_
      refine K_then ?_
      refine C_ret ?_
      refine K_retB ?_
      iterate 2 refine K_ret ?_
      refine K_retB ?_
      refine K_ret ?_
      refine K_end (.inr rfl) (.tmp rfl .nil) (fun w hw => ?_)
      refine ⟨_, rfl, (hw.c), ?_⟩
      clear hw
      refine congrArg Value.bool (decide_eq_false (fun h9 => ?_)).symm
      have hv9 : ValOk c_val c_has := h9.1
      have hm9 : MarksOk c_marks_l := h9.2
      obtain ⟨_, ⟨⟨g1, g2⟩, g3, g4⟩, g5⟩ := (marks_take (l := c_marks_l) (k := k) (by omega)).1 (marks_pre hm9 (k + 1))
      omega
     ·replace hc6 := dF hc6
      simp only [List.get_eq_getElem] at hc6
      refine Y_move ?_
      refine Y_cmp ?_
      refine Y_move ?_
      refine XD_part 34 rfl (fun hc7 => ?_) (fun hc7 => ?_)
      ·replace hc7 := dT hc7
       refine Y_fieldAddr F.foff37_3 ?_
       refine Y_load F.lay35 ?_
       refine Y_move ?_
       refine X_ari rfl rfl rfl rfl rfl (by exact wrap_in (by decide) (by omega)) rfl ?_
       refine X_indexAddr rfl rfl rfl rfl F.elem35 (by exact (Int.toNat_of_nonneg (by omega)).symm) (by omega) (by exact SlM.plain (by assumption) (by (simp; omega))) rfl ?_
       refine X_fieldAddr_el rfl rfl rfl (by exact SlM.plain (by assumption) (by (simp; omega))) F.foff70_0 rfl ?_
       refine X_load_el rfl rfl rfl (by assumption) (by exact row_map (by omega)) F.lay3 rfl rfl rfl ?_
       refine Y_fieldAddr F.foff70_0 ?_
       refine Y_load F.lay3 ?_
       refine Y_cmp ?_
       iterate 2 refine Y_pick ?_
       refine Y_move ?_
       refine XD_part 47 rfl (fun hc8 => ?_) (fun hc8 => ?_)
       ·replace hc8 := dT hc8
        simp only [List.get_eq_getElem] at hc8
        iterate 4 refine Y_skip ?_
        refine Y_pick ?_
        refine XD_end ?_
        refine K_then ?_
        refine C_true rfl ?_
        refine C_seq ?_
        refine C_region (l := [0]) rfl ?_
        refine Y_assign ?_
        refine XD_end ?_
        refine K_then ?_
        refine C_ret ?_
        refine K_retB ?_
        iterate 2 refine K_ret ?_
        refine K_retB ?_
        refine K_ret ?_
        refine K_end (.inr rfl) (.tmp rfl .nil) (fun w hw => ?_)
        refine ⟨_, rfl, (hw.c), ?_⟩
        clear hw
        refine congrArg Value.bool (decide_eq_false (fun h9 => ?_)).symm
        have hv9 : ValOk c_val c_has := h9.1
        have hm9 : MarksOk c_marks_l := h9.2
        obtain ⟨_, ⟨⟨g1, g2⟩, g3, g4⟩, g5⟩ := (marks_take (l := c_marks_l) (k := k) (by omega)).1 (marks_pre hm9 (k + 1))
        (have h2 := g5 (by omega); have e9 : (c_marks_l[((k : Int) - 1).toNat]'(by omega)).client = (c_marks_l[k - 1]'(by omega)).client := (by congr 2; omega); omega)
       ·replace hc8 := dF hc8
        simp only [List.get_eq_getElem] at hc8
        refine Y_fieldAddr F.foff70_2 ?_
        refine Y_load F.lay68 ?_
        refine X_fs rfl rfl F.ok63 rfl (rIsAns_ok _ ⟨_, _, _, _⟩) rfl ?_
        rintro _ rfl
        refine Y_not ?_
        refine Y_pick ?_
        refine XD_end ?_
        refine K_then ?_
        refine C_cond rfl (fun hc9 => ?_) (fun hc9 => ?_)
        ·replace hc9 := nT hc9
         simp only [AnswerV.eta, MarkV.eta, CellV.eta, HeldV.eta, PeerV.eta] at hc9
         simp only [List.get_eq_getElem] at hc9
         refine C_seq ?_
         refine C_region (l := [0]) rfl ?_
         refine Y_assign ?_
         refine XD_end ?_
         refine K_then ?_
         refine C_ret ?_
         refine K_retB ?_
         iterate 2 refine K_ret ?_
         refine K_retB ?_
         refine K_ret ?_
         refine K_end (.inr rfl) (.tmp rfl .nil) (fun w hw => ?_)
         refine ⟨_, rfl, (hw.c), ?_⟩
         clear hw
         refine congrArg Value.bool (decide_eq_false (fun h9 => ?_)).symm
         have hv9 : ValOk c_val c_has := h9.1
         have hm9 : MarksOk c_marks_l := h9.2
         obtain ⟨_, ⟨⟨g1, g2⟩, g3, g4⟩, g5⟩ := (marks_take (l := c_marks_l) (k := k) (by omega)).1 (marks_pre hm9 (k + 1))
         (simp_all [AnsOk]; done)
        ·replace hc9 := nF hc9
         simp only [AnswerV.eta, MarkV.eta, CellV.eta, HeldV.eta, PeerV.eta] at hc9
         simp only [List.get_eq_getElem] at hc9
         refine C_skip ?_
         refine K_out ?_
         refine K_then ?_
         refine C_region (l := [0, 1, 2]) rfl ?_
         refine Y_move ?_
         refine X_ari rfl rfl rfl rfl rfl (by exact wrap_in (by decide) (by omega)) rfl ?_
         refine Y_assign ?_
         refine XD_end ?_
         refine K_roundS (a' := [(3, _)]) (k + 1) (.cons (k := 3) rfl (.cons (k := 2) rfl (.cons (k := 1) rfl (.nil)))) (fun w hw => by first | exact hw | exact hw.c) ?_ ?_
         ·refine ⟨rfl, by omega, ?_⟩
          (refine ⟨hI.1, ?_⟩)
          rw [marks_take (by omega)]
          refine ⟨hI.2, ⟨⟨by omega, by omega⟩, by assumption⟩, fun h0 => ?_⟩
          (simp_all; done)
         ·omega
      ·replace hc7 := dF hc7
       iterate 10 refine Y_skip ?_
       iterate 2 refine Y_pick ?_
       refine Y_move ?_
       refine Y_fieldAddr F.foff70_2 ?_
       refine Y_load F.lay68 ?_
       refine X_fs rfl rfl F.ok63 rfl (rIsAns_ok _ ⟨_, _, _, _⟩) rfl ?_
       rintro _ rfl
       refine Y_not ?_
       refine Y_pick ?_
       refine XD_end ?_
       refine K_then ?_
       refine C_cond rfl (fun hc10 => ?_) (fun hc10 => ?_)
       ·replace hc10 := nT hc10
        simp only [AnswerV.eta, MarkV.eta, CellV.eta, HeldV.eta, PeerV.eta] at hc10
        simp only [List.get_eq_getElem] at hc10
        refine C_seq ?_
        refine C_region (l := [0]) rfl ?_
        refine Y_assign ?_
        refine XD_end ?_
        refine K_then ?_
        refine C_ret ?_
        refine K_retB ?_
        iterate 2 refine K_ret ?_
        refine K_retB ?_
        refine K_ret ?_
        refine K_end (.inr rfl) (.tmp rfl .nil) (fun w hw => ?_)
        refine ⟨_, rfl, (hw.c), ?_⟩
        clear hw
        refine congrArg Value.bool (decide_eq_false (fun h9 => ?_)).symm
        have hv9 : ValOk c_val c_has := h9.1
        have hm9 : MarksOk c_marks_l := h9.2
        obtain ⟨_, ⟨⟨g1, g2⟩, g3, g4⟩, g5⟩ := (marks_take (l := c_marks_l) (k := k) (by omega)).1 (marks_pre hm9 (k + 1))
        (simp_all [AnsOk]; done)
       ·replace hc10 := nF hc10
        simp only [AnswerV.eta, MarkV.eta, CellV.eta, HeldV.eta, PeerV.eta] at hc10
        simp only [List.get_eq_getElem] at hc10
        refine C_skip ?_
        refine K_out ?_
        refine K_then ?_
        refine C_region (l := [0, 1, 2]) rfl ?_
        refine Y_move ?_
        refine X_ari rfl rfl rfl rfl rfl (by exact wrap_in (by decide) (by omega)) rfl ?_
        refine Y_assign ?_
        refine XD_end ?_
        refine K_roundS (a' := [(3, _)]) (k + 1) (.cons (k := 3) rfl (.cons (k := 2) rfl (.cons (k := 1) rfl (.nil)))) (fun w hw => by first | exact hw | exact hw.c) ?_ ?_
        ·refine ⟨rfl, by omega, ?_⟩
         (refine ⟨hI.1, ?_⟩)
         rw [marks_take (by omega)]
         refine ⟨hI.2, ⟨⟨by omega, by omega⟩, by assumption⟩, fun h0 => ?_⟩
         omega
        ·omega
   ·replace hc3 := dF hc3
    refine C_exit ?_
    iterate 2 refine K_exit ?_
    refine K_hit ?_
    refine K_then ?_
    refine Y_pk [2] ?_
    refine C_seq ?_
    refine C_region (l := [0]) rfl ?_
    refine Y_assign ?_
    refine XD_end ?_
    refine K_then ?_
    refine C_ret ?_
    refine K_end (.inr rfl) (.tmp rfl .nil) (fun w hw => ?_)
    refine ⟨_, rfl, (hw.c), ?_⟩
    clear hw
    obtain rfl : k = c_marks_l.length := by omega
    rw [List.take_length] at hI
    exact congrArg Value.bool (decide_eq_true (show IsCel ⟨c_version, c_has, c_val, c_marks_l⟩ from hI)).symm

end Go.Proofs.Ytbafnjniijodfaa
/-
  Marks.
-/
set_option linter.unusedSimpArgs false
set_option linter.unusedVariables false
set_option linter.unnecessarySimpa false
set_option maxRecDepth 8000
set_option maxHeartbeats 1000000
namespace Go.Proofs.Ytbafnjniijodfaa
open Go.Esp
theorem F.bld70 : Bld Try.prog 70 [[.one (.int .i64 0)], [.one (.int .u64 0)], [.one (.int .i64 0), .one (.int .u64 0), .one (.bool false), .one (.string ⟨#[]⟩)]] := ⟨by kernel_rfl, by kernel_rfl⟩
theorem F.ok70 : okFn Try.prog 70 = true := by kernel_rfl
theorem F.ok71 : okFn Try.prog 71 = true := by kernel_rfl
theorem F.ok77 : okFn Try.prog 77 = true := by kernel_rfl
theorem F.ok78 : okFn Try.prog 78 = true := by kernel_rfl
theorem F.ok79 : okFn Try.prog 79 = true := by kernel_rfl

theorem find1_ok (M : Mem) (m : MarkV) (c : Int) (h1 : 0 ≤ m.client ∧ m.client ≤ 63) (h2 : 0 ≤ c ∧ c ≤ 63) : Fs Try.prog 78 [m.enc, .int .i64 c] M (fun v => v = Value.int .i64 (m.client - c)) := by
  obtain ⟨m_client, m_req, ⟨m_answer_code, m_answer_version, m_answer_has, m_answer_val⟩⟩ := m
  simp only at h1
  refine fs_enter Try.func78 rfl Try.ntmps78 rfl ?_; intro H
  refine C_seq ?_
  refine C_region (l := [0, 1]) rfl ?_
  refine Y_box ?_; intro b1
  refine Y_assign ?_
  refine XD_end ?_
  refine K_then ?_
  refine Y_pk [4, 2, 1] ?_
  refine C_seq ?_
  refine C_region (l := [0, 1, 2, 3, 4]) rfl ?_
  refine Y_fieldAddr F.foff70_0 ?_
  refine Y_load F.lay3 ?_
  refine Y_move ?_
  refine X_ari rfl rfl rfl rfl rfl (by exact wrap_in (by decide) (by omega)) rfl ?_
  refine Y_assign ?_
  refine XD_end ?_
  refine K_then ?_
  refine Y_pk [4] ?_
  refine C_ret ?_
  refine K_end (.inr rfl) (.tmp rfl .nil) (fun w hw => ?_)
  refine ⟨_, rfl, (hw.c), ?_⟩
  clear hw
  rfl

theorem find_rd (M : Mem) (Hin : Hp) (l : Sl MarkV) (c : Int) (hl : RdS M Hin l.a (l.l.map MarkV.segs) 6) (bl : l.l.length ≤ 1000000) (hm : MarksOk l.l) (hc : 0 ≤ c ∧ c ≤ 63) : Fo Try.prog 71 [l.val, .int .i64 c] M Hin (fun M' v => M' = M ∧ v = .tuple #[.int .i64 ((atM l.l c : Nat) : Int), .bool (isM l.l c)]) := by
  refine fo_enter Try.func71 rfl Try.ntmps71 rfl ?_; intro H
  refine C_seq ?_
  refine C_region (l := [0, 1]) rfl ?_
  iterate 2 refine Y_assign ?_
  refine XD_end ?_
  refine K_then ?_
  refine C_seq ?_
  refine C_region (l := [0, 1, 2, 3, 4, 5, 6]) rfl ?_
  iterate 2 refine Y_move ?_
  refine X_fo rfl rfl F.ok77 rfl (BSK_rd _ Hin l _ 78 [] (fun m => m.client - c) hl bl F.ok78 (fun x hx => (find1_ok M x c (hm.1 x hx).1 hc).foE Hin) (fun i j hi hj hij h => marks_mono hm i j hi hj hij h)) (by repeat first | exact Rem.here _ | exact Rem.two | apply Rem.skip | apply Rem.over) (putE_some rfl) ?_
  rintro _ M1 _ ⟨hM1, rfl⟩; subst M1
  rw [atM_bs, isM_bs]
  iterate 2 refine Y_extract ?_
  iterate 2 refine Y_assign ?_
  refine XD_end ?_
  refine K_then ?_
  refine Y_pk [5, 4] ?_
  refine C_ret ?_
  refine K_end (.inr rfl) (.tmp rfl (.tmp rfl .nil)) (fun w hw => ?_)
  refine ⟨_, M, rfl, Mem.le.refl M, hw.c, rfl, ?_⟩
  clear hw
  rfl

theorem find_ok (M : Mem) (l : Sl MarkV) (c : Int) (k : SlK M MarkV.segs 6 l) (hm : MarksOk l.l) (hc : 0 ≤ c ∧ c ≤ 63) : Fs Try.prog 71 [l.val, .int .i64 c] M (fun v => v = .tuple #[.int .i64 ((atM l.l c : Nat) : Int), .bool (isM l.l c)]) :=
  fs_of_fo (find_rd M [] l c (k.h1.rd []) (by have := marks_len hm; omega) hm hc)

theorem put_ok (M : Mem) (l : (Sl MarkV)) (m : MarkV) (hl0 : SlK M MarkV.segs 6 l) (hm : MarksOk l.l) (hk : MarkOk m) : Esp.Fn Try.prog 72 [Sl.val l, m.enc] M (fun M' v => ∃ s : Sl MarkV, v = s.val ∧ s.l = putM l.l m ∧ SlK M' MarkV.segs 6 s) := by
  obtain ⟨l_a, l_c, l_l⟩ := l
  obtain ⟨m_client, m_req, ⟨m_answer_code, m_answer_version, m_answer_has, m_answer_val⟩⟩ := m
  have k_l : SlK M MarkV.segs 6 ⟨l_a, l_c, l_l⟩ := hl0
  have s_l : SlM M l_a (l_l.map MarkV.segs) 6 := k_l.h1
  have n_l : (l_l.map MarkV.segs).length = l_l.length := List.length_map ..
  have m_l : l_l.length ≤ 9223372036854775807 := k_l.h2
  have c_l : l_l.length ≤ l_c := k_l.h3
  have hlen := marks_len hm
  have hcl := hk.1
  simp only at hlen hcl hm
  refine fn_enter Try.func72 rfl Try.ntmps72 rfl ?_; intro H
  refine C_seq ?_
  refine C_region (l := [0, 1]) rfl ?_
  refine Y_box ?_; intro b1
  refine Y_assign ?_
  refine XD_end ?_
  refine K_then ?_
  refine Y_pk [4, 3, 0] ?_
  refine C_seq ?_
  refine C_region (l := [0, 1, 2]) rfl ?_
  refine Y_move ?_
  refine X_fhR rfl rfl F.ok70 rfl (CloneK_ok _ _ _ _ k_l (by omega)) (by repeat first | exact Rem.here _ | exact Rem.two | apply Rem.skip | apply Rem.over) (fun _ _ _ hm hw => (hw.lower (by exact hm)).c) (putE_some rfl) ?_
  rintro v0 M1 hs0 hm1 ⟨hM1, ho0⟩; subst M1
  obtain ⟨ad0, cp0, rfl⟩ := ho0.valL
  refine Y_assign ?_
  refine XD_end ?_
  refine K_then ?_
  refine Y_pk [0, 4, 3] ?_
  refine C_seq ?_
  refine C_region (l := [0, 1, 2, 3, 4, 5, 6, 7, 8]) rfl ?_
  refine Y_move ?_
  refine Y_fieldAddr F.foff70_0 ?_
  refine Y_load F.lay3 ?_
  refine X_fo rfl rfl F.ok71 rfl (find_rd _ hs0 ⟨ad0, cp0, l_l⟩ m_client (ho0.rd _) (by show l_l.length ≤ 1000000; omega) hm hcl) (by repeat first | exact Rem.here _ | exact Rem.two | apply Rem.skip | apply Rem.over) (putE_some rfl) ?_
  rintro _ M1 _ ⟨hM1, rfl⟩; subst M1
  refine Y_move ?_
  iterate 2 refine Y_extract ?_
  iterate 2 refine Y_assign ?_
  refine XD_end ?_
  refine K_then ?_
  refine Y_pk [6, 5, 0, 4, 3] ?_
  iterate 2 refine C_seq ?_
  refine C_region (l := [0, 1]) rfl ?_
  refine Y_move ?_
  refine Y_not ?_
  refine XD_end ?_
  refine K_then ?_
  refine Y_pk [17, 5, 0, 4, 3] ?_
  refine C_cond rfl (fun hc2 => ?_) (fun hc2 => ?_)
  ·skip
   simp only [AnswerV.eta, MarkV.eta, CellV.eta, HeldV.eta, PeerV.eta] at hc2
   refine C_seq ?_
   refine C_regionR (l := [0, 1, 2, 3, 4, 5]) (Hin := hs0) (by repeat first | exact Rem.here _ | exact Rem.two | apply Rem.skip | apply Rem.over) rfl ?_
   iterate 2 refine Y_move ?_
   refine Y_load F.lay70 ?_
   refine X_buildSliceF rfl rfl F.elem35 F.zero70 rfl rfl (.cons rfl (by constructor) .nil) rfl rfl (by simp only [List.map_cons, List.map_nil] <;> rfl) rfl ?_; intro b3 hob4
   refine X_fhR2 rfl rfl F.ok79 rfl (InsertK_ok _ ad0 cp0 l_l hs0 (atM l_l m_client) (atM_le _ _) ⟨m_client, m_req, ⟨m_answer_code, m_answer_version, m_answer_has, m_answer_val⟩⟩ _ _ hob4 (by omega) ho0) (by repeat first | exact Rem.here _ | exact Rem.two | apply Rem.skip | apply Rem.over) (by repeat first | exact Rem.here _ | exact Rem.two | apply Rem.skip | apply Rem.over) (by rintro v M9 Hout w hm ⟨rfl, _⟩ hw; exact hw.c) (putE_some rfl) ?_
   rintro v7 M1 hs7 hm2 ⟨hM1, ho6⟩; subst M1
   refine Y_assign ?_
   refine XD_end ?_
   refine K_then ?_
   refine Y_pk [4, 5, 0, 3] ?_
   refine C_ret ?_
   refine K_ret ?_
   refine K_end (.inr rfl) (.tmp rfl .nil) (fun w hw => ?_)
   have ho7 : OSl 70 6 v7 hs7 ((putM l_l ⟨m_client, m_req, ⟨m_answer_code, m_answer_version, m_answer_has, m_answer_val⟩⟩).map MarkV.segs) := by rw [putM_not (by simp_all)]; exact ho6
   have hw9 : St _ (hs7 ++ H) w := hw.c
   obtain ⟨M9, s9, g1, g2, g3, g4, g5⟩ := ho7.freezeK hw9
   exact ⟨_, M9, rfl, g1, g2, s9, g3, g4, g5⟩
  ·skip
   simp only [AnswerV.eta, MarkV.eta, CellV.eta, HeldV.eta, PeerV.eta] at hc2
   refine C_skip ?_
   refine K_then ?_
   refine Y_pk [5, 0, 4, 3] ?_
   refine C_seq ?_
   have hisM : isM l_l m_client = true := by simp_all
   have hlt := isM_lt hisM
   obtain ⟨b0, rfl⟩ : ∃ b, ad0 = some ⟨b, 0, none⟩ := by
    cases ad0 with
    |none => rw [(ho0.noneAll).1] at hlt; cases hlt
    |some ad => obtain ⟨b, rfl⟩ := ho0.someAll; exact ⟨b, rfl⟩
   refine C_region (l := [0, 1, 2, 3, 4]) rfl ?_
   iterate 2 refine Y_move ?_
   refine Y_load F.lay70 ?_
   refine X_indexAddr rfl rfl rfl rfl F.elem35 (by rfl) (by omega) (by exact ⟨_, _, rfl⟩) rfl ?_
   refine X_storeO (b := b0) (j := atM l_l m_client) rfl rfl rfl rfl (by constructor) (MarkV.flat ⟨m_client, m_req, ⟨m_answer_code, m_answer_version, m_answer_has, m_answer_val⟩⟩) F.lay70 rfl rfl ho0 (by repeat first | exact Rem.here _ | exact Rem.two | apply Rem.skip | apply Rem.over) (by rw [List.length_map]; exact hlt) ?_; intro hs5 ho5
   refine XD_end ?_
   refine K_then ?_
   refine Y_pk [0, 4] ?_
   refine C_seq ?_
   refine C_region (l := [0, 1]) rfl ?_
   refine Y_move ?_
   refine Y_assign ?_
   refine XD_end ?_
   refine K_then ?_
   refine Y_pk [4] ?_
   refine C_ret ?_
   refine K_end (.inr rfl) (.tmp rfl .nil) (fun w hw => ?_)
   have e7 : ((l_l.map MarkV.segs).set (atM l_l m_client) (MarkV.segs ⟨m_client, m_req, ⟨m_answer_code, m_answer_version, m_answer_has, m_answer_val⟩⟩)) = (putM l_l ⟨m_client, m_req, ⟨m_answer_code, m_answer_version, m_answer_has, m_answer_val⟩⟩).map MarkV.segs := by rw [putM_is hisM, List.map_set]
   have ho7 := ho5
   rw [e7] at ho7
   have hw9 : St _ (hs5 ++ H) w := hw.c
   obtain ⟨M9, s9, g1, g2, g3, g4, g5⟩ := ho7.freezeK hw9
   exact ⟨_, M9, rfl, g1, g2, s9, by rw [← g3, List.length_map]; rfl, g4, g5⟩

theorem mark_ok (M : Mem) (l : (Sl MarkV)) (m : MarkV) (hl0 : SlK M MarkV.segs 6 l) (hm : MarksOk l.l) (hk : MarkOk m) : Esp.Fn Try.prog 65 [Sl.val l, m.enc] M (fun M' v => ∃ s : Sl MarkV, v = s.val ∧ s.l = putM l.l m ∧ SlK M' MarkV.segs 6 s) := by
  obtain ⟨l_a, l_c, l_l⟩ := l
  obtain ⟨m_client, m_req, ⟨m_answer_code, m_answer_version, m_answer_has, m_answer_val⟩⟩ := m
  have k_l : SlK M MarkV.segs 6 ⟨l_a, l_c, l_l⟩ := hl0
  have s_l : SlM M l_a (l_l.map MarkV.segs) 6 := k_l.h1
  have n_l : (l_l.map MarkV.segs).length = l_l.length := List.length_map ..
  have m_l : l_l.length ≤ 9223372036854775807 := k_l.h2
  have c_l : l_l.length ≤ l_c := k_l.h3
  have hlen := marks_len hm
  have hcl := hk.1
  simp only at hlen hcl hm
  refine fn_enter Try.func65 rfl Try.ntmps65 rfl ?_; intro H
  refine C_seq ?_
  refine C_region (l := [0, 1]) rfl ?_
  refine Y_box ?_; intro b1
  refine Y_assign ?_
  refine XD_end ?_
  refine K_then ?_
  refine Y_pk [4, 3, 0] ?_
  refine C_seq ?_
  refine C_region (l := [0]) rfl ?_
  refine Y_assign ?_
  refine XD_end ?_
  refine K_then ?_
  refine C_seq ?_
  refine C_region (l := [0]) rfl ?_
  refine Y_assign ?_
  refine XD_end ?_
  refine K_then ?_
  refine C_seq ?_
  refine C_block ?_
  refine Y_pk [6, 5, 4, 3, 0] ?_
  refine C_loopO (Hin := []) (.succ (.succ .zero)) (by repeat first | exact Rem.here _ | exact Rem.two | apply Rem.skip | apply Rem.over) (fun (k : Nat) M1 h1 z => ∃ v, M1 = M ∧ z = [(6, .int .i64 (k : Int)), (5, v)] ∧ k ≤ l_l.length ∧ (∀ j, j < k → clt l_l m_client j = false) ∧ OSl 70 6 v h1 ((l_l.take (k)).map MarkV.segs)) (fun k => l_l.length - k) (0) (⟨_, rfl, rfl, by omega, fun j hj => by omega, OSl.nil⟩) ?_
  rintro k M1 h1 z hm1 ⟨v0, hM1, rfl, hk9, hI, ho⟩
  subst hM1
  obtain ⟨ad0, cp0, rfl⟩ := ho.val
  have hml : ((l_l.take (k)).map MarkV.segs).length = k := by simp; omega
  rw [hml] at ho ⊢
  iterate 2 refine C_seq ?_
  refine C_region_any (l := [0, 1, 2, 3, 4, 5, 6, 7, 8, 9, 10, 11, 12, 13]) #[0, 0, 2, 7, 15, 31, 31, 127, 255, 511, 31, 1055, 4095, 8191] _ rfl (by kernel_rfl) (by kernel_rfl) St.drawn (fun _ h => h) ?_
  iterate 2 refine Y_move ?_
  refine Y_len_sl F.elem35 ?_
  refine Y_cmp ?_
  refine Y_move ?_
  refine XD_part 11 rfl (fun hc2 => ?_) (fun hc2 => ?_)
  ·replace hc2 := dT hc2
   iterate 2 refine Y_move ?_
   refine X_indexAddr rfl rfl rfl rfl F.elem35 (by rfl) (by omega) (by exact SlM.plain (by assumption) (by (simp; omega))) rfl ?_
   refine X_fieldAddr_el rfl rfl rfl (by exact SlM.plain (by assumption) (by (simp; omega))) F.foff70_0 rfl ?_
   refine X_load_el rfl rfl rfl (by assumption) (by exact row_map (by omega)) F.lay3 rfl rfl rfl ?_
   refine Y_fieldAddr F.foff70_0 ?_
   refine Y_load F.lay3 ?_
   refine Y_cmp ?_
   refine Y_pick ?_
   refine XD_end ?_
   refine K_then ?_
   refine C_cond rfl (fun hc3 => ?_) (fun hc3 => ?_)
   ·replace hc3 := dT hc3
    simp only [List.get_eq_getElem] at hc3
    refine C_skip ?_
    refine K_then ?_
    refine C_block ?_
    refine C_seq ?_
    refine C_region (l := [0, 1, 2, 3, 4, 5, 6, 7]) rfl ?_
    iterate 3 refine Y_move ?_
    refine X_indexAddr rfl rfl rfl rfl F.elem35 (by rfl) (by omega) (by exact SlM.plain (by assumption) (by (simp; omega))) rfl ?_
    refine X_load_el rfl rfl rfl (by assumption) (by exact row_map (by omega)) F.lay70 rfl rfl rfl ?_
    refine X_buildSliceF rfl rfl F.elem35 F.zero70 rfl rfl (.cons rfl (by constructor) .nil) rfl rfl (by simp only [List.map_cons, List.map_nil] <;> rfl) rfl ?_; intro b4 hob5
    refine X_append (m := 1000000) rfl rfl rfl rfl rfl F.elem35 F.zero70 (by rfl) rfl (by assumption) (by repeat first | exact Rem.here _ | exact Rem.two | apply Rem.skip | apply Rem.over) (Src.own hob5.lens (by (refine rows_one1 ?_; (repeat (first | exact flat_nil | refine flat_id ?_ | (refine flat_one ?_ ?_; rfl))); done)) rfl (by repeat first | exact List.Mem.head _ | refine List.Mem.tail _ ?_ | refine List.mem_append_right _ ?_)) (by (simp; omega)) (by decide) rfl ?_; intro v8 hs7 ho6; obtain ⟨adv8, cpv8, rfl⟩ := ho6.val
    refine Y_assign ?_
    refine XD_end ?_
    refine K_then ?_
    refine C_region (l := [0, 1, 2]) rfl ?_
    refine Y_move ?_
    refine X_ari rfl rfl rfl rfl rfl (by exact wrap_in (by decide) (by omega)) rfl ?_
    refine Y_assign ?_
    refine XD_end ?_
    refine K_out ?_
    refine K_roundO (a' := [(6, _), (5, _)]) (k + 1) (hs7) (.cons (k := 6) rfl (.cons (k := 5) rfl (.cons (k := 4) rfl (.cons (k := 3) rfl (.cons (k := 0) rfl (.nil)))))) (by exact Mem.le.refl _) (fun w hw => by first | exact hw | exact hw.c) ?_ ?_
    ·refine ⟨_, rfl, rfl, by omega, fun j hj => ?_, ?_⟩
     ·rcases Nat.lt_or_ge j k with h9 | h9
      ·exact hI j h9
      ·obtain rfl : j = k := by omega
       rw [clt_at (by omega)]; exact decide_eq_false (by omega)
     ·rw [take_map_succ _ (by omega)]
      exact ho6
    ·omega
   ·replace hc3 := dF hc3
    simp only [List.get_eq_getElem] at hc3
    refine C_exit ?_
    iterate 2 refine K_exit ?_
    refine K_hit ?_
    refine K_then ?_
    refine Y_pk [6, 5, 4, 3, 0] ?_
    refine C_seq ?_
    have hat : atM l_l m_client = k := firstP_at hk9 hI (fun h9 => by rw [clt_at h9]; exact decide_eq_true (by omega))
    have k_d0 := k_l.drop k hk9
    refine C_region (l := [0, 1, 2, 3, 4]) rfl ?_
    refine Y_move ?_
    refine Y_load F.lay70 ?_
    refine X_buildSliceF rfl rfl F.elem35 F.zero70 rfl rfl (.cons rfl (by constructor) .nil) rfl rfl (by simp only [List.map_cons, List.map_nil] <;> rfl) rfl ?_; intro b9 hob10
    refine X_append (m := 1000000) rfl rfl rfl rfl rfl F.elem35 F.zero70 (by rfl) rfl (by assumption) (by repeat first | exact Rem.here _ | exact Rem.two | apply Rem.skip | apply Rem.over) (Src.own hob10.lens (by (refine rows_one1 ?_; (repeat (first | exact flat_nil | refine flat_id ?_ | (refine flat_one ?_ ?_; rfl))); done)) rfl (by repeat first | exact List.Mem.head _ | refine List.Mem.tail _ ?_ | refine List.mem_append_right _ ?_)) (by (simp; omega)) (by decide) rfl ?_; intro v13 hs12 ho11; obtain ⟨adv13, cpv13, rfl⟩ := ho11.val
    refine Y_assign ?_
    refine XD_end ?_
    refine K_then ?_
    refine Y_pk [5, 6, 4, 3, 0] ?_
    iterate 2 refine C_seq ?_
    refine C_region_any (l := [0, 1, 2, 3, 4, 5, 6, 7, 8, 9, 10, 11, 12, 13]) #[0, 0, 2, 7, 15, 31, 31, 127, 255, 511, 31, 1055, 4095, 8191] _ rfl (by kernel_rfl) (by kernel_rfl) St.drawn (fun _ h => h) ?_
    iterate 2 refine Y_move ?_
    refine Y_len_sl F.elem35 ?_
    refine Y_cmp ?_
    refine Y_move ?_
    refine XD_part 38 rfl (fun hc14 => ?_) (fun hc14 => ?_)
    ·replace hc14 := dT hc14
     iterate 2 refine Y_move ?_
     refine X_indexAddr rfl rfl rfl rfl F.elem35 (by rfl) (by omega) (by exact SlM.plain (by assumption) (by (simp; omega))) rfl ?_
     refine X_fieldAddr_el rfl rfl rfl (by exact SlM.plain (by assumption) (by (simp; omega))) F.foff70_0 rfl ?_
     refine X_load_el rfl rfl rfl (by assumption) (by exact row_map (by omega)) F.lay3 rfl rfl rfl ?_
     refine Y_fieldAddr F.foff70_0 ?_
     refine Y_load F.lay3 ?_
     refine Y_cmp ?_
     refine Y_pick ?_
     refine XD_end ?_
     refine K_then ?_
     refine Y_pk [47, 5, 6, 4, 0] ?_
     refine C_cond rfl (fun hc15 => ?_) (fun hc15 => ?_)
     ·replace hc15 := dT hc15
      simp only [List.get_eq_getElem] at hc15
      have k_d1 := k_l.drop (k + 1) (by omega)
      refine C_region (l := [0, 1, 2]) rfl ?_
      refine Y_move ?_
      refine X_ari rfl rfl rfl rfl rfl (by exact wrap_in (by decide) (by omega)) rfl ?_
      refine Y_assign ?_
      refine XD_end ?_
      refine K_then ?_
      refine Y_pk [6, 5, 4, 0] ?_
      refine C_seq ?_
      refine C_region (l := [0, 1, 2, 3, 4, 5]) rfl ?_
      iterate 3 refine Y_move ?_
      refine X_slice rfl rfl rfl (.some (k := k + 1) rfl (by rfl)) .none .none F.elem35 (by simp only [Option.getD_none]; omega) (by simp only [Option.getD_some, Option.getD_none]; omega) (by simp only [Option.getD_some, Option.getD_none]; omega) (by simp) (pieceV_drop (l := l_l) (k := k + 1)) rfl ?_
      refine X_appendK (m := 1000000) rfl rfl rfl rfl rfl F.elem35 F.zero70 (by rfl) rfl (by assumption) (by repeat first | exact Rem.here _ | exact Rem.two | apply Rem.skip | apply Rem.over) ((by exact k_d1.h1)) MarkV.flat (by (simp; omega)) (by decide) rfl ?_; intro v18 hs17 ho16; obtain ⟨adv18, cpv18, rfl⟩ := ho16.val
      refine Y_assign ?_
      refine XD_end ?_
      refine K_then ?_
      refine Y_pk [4] ?_
      refine C_ret ?_
      refine K_end (.inr rfl) (.tmp rfl .nil) (fun w hw => ?_)
      have e7 : (((l_l.take k).map MarkV.segs ++ [MarkV.segs ⟨m_client, m_req, ⟨m_answer_code, m_answer_version, m_answer_has, m_answer_val⟩⟩]) ++ (l_l.drop (k + 1)).map MarkV.segs) = (putM l_l ⟨m_client, m_req, ⟨m_answer_code, m_answer_version, m_answer_has, m_answer_val⟩⟩).map MarkV.segs := by
       unfold putM
       rw [show isM l_l (MarkV.client ⟨m_client, m_req, ⟨m_answer_code, m_answer_version, m_answer_has, m_answer_val⟩⟩) = true from (by show isM l_l m_client = true; rw [isM_at (by rw [hat]; omega)]; simp only [hat]; exact decide_eq_true (by assumption)), show atM l_l (MarkV.client ⟨m_client, m_req, ⟨m_answer_code, m_answer_version, m_answer_has, m_answer_val⟩⟩) = k from hat]
       simp
      have ho7 := ho16
      replace ho7 := ho7.as9 e7
      have hw9 : St _ (hs17 ++ H) w := hw.c
      obtain ⟨M9, s9, g1, g2, g3, g4, g5⟩ := ho7.freezeK hw9
      exact ⟨_, M9, rfl, g1, g2, s9, g3, g4, g5⟩
     ·replace hc15 := dF hc15
      simp only [List.get_eq_getElem] at hc15
      refine C_skip ?_
      refine K_then ?_
      refine Y_pk [5, 6, 4, 0] ?_
      refine C_seq ?_
      refine C_region (l := [0, 1, 2, 3, 4, 5]) rfl ?_
      iterate 3 refine Y_move ?_
      refine X_slice rfl rfl rfl (.some (k := k) rfl (by rfl)) .none .none F.elem35 (by simp only [Option.getD_none]; omega) (by simp only [Option.getD_some, Option.getD_none]; omega) (by simp only [Option.getD_some, Option.getD_none]; omega) (by simp) (pieceV_drop (l := l_l) (k := k)) rfl ?_
      refine X_appendK (m := 1000000) rfl rfl rfl rfl rfl F.elem35 F.zero70 (by rfl) rfl (by assumption) (by repeat first | exact Rem.here _ | exact Rem.two | apply Rem.skip | apply Rem.over) ((by exact k_d0.h1)) MarkV.flat (by (simp; omega)) (by decide) rfl ?_; intro v21 hs20 ho19; obtain ⟨adv21, cpv21, rfl⟩ := ho19.val
      refine Y_assign ?_
      refine XD_end ?_
      refine K_then ?_
      refine Y_pk [4] ?_
      refine C_ret ?_
      refine K_end (.inr rfl) (.tmp rfl .nil) (fun w hw => ?_)
      have e7 : (((l_l.take k).map MarkV.segs ++ [MarkV.segs ⟨m_client, m_req, ⟨m_answer_code, m_answer_version, m_answer_has, m_answer_val⟩⟩]) ++ (l_l.drop (k)).map MarkV.segs) = (putM l_l ⟨m_client, m_req, ⟨m_answer_code, m_answer_version, m_answer_has, m_answer_val⟩⟩).map MarkV.segs := by
       unfold putM
       rw [show isM l_l (MarkV.client ⟨m_client, m_req, ⟨m_answer_code, m_answer_version, m_answer_has, m_answer_val⟩⟩) = false from (if h8 : k < l_l.length then (by show isM l_l m_client = false; rw [isM_at (by rw [hat]; exact h8)]; simp only [hat]; exact decide_eq_false (by assumption)) else (by show isM l_l m_client = false; unfold isM; rw [List.getElem?_eq_none (by omega)])), show atM l_l (MarkV.client ⟨m_client, m_req, ⟨m_answer_code, m_answer_version, m_answer_has, m_answer_val⟩⟩) = k from hat]
       simp
      have ho7 := ho19
      replace ho7 := ho7.as9 e7
      have hw9 : St _ (hs20 ++ H) w := hw.c
      obtain ⟨M9, s9, g1, g2, g3, g4, g5⟩ := ho7.freezeK hw9
      exact ⟨_, M9, rfl, g1, g2, s9, g3, g4, g5⟩
    ·replace hc14 := dF hc14
     (exfalso; omega)
  ·replace hc2 := dF hc2
   iterate 8 refine Y_skip ?_
   refine Y_pick ?_
   refine XD_end ?_
   refine K_then ?_
   refine C_false rfl ?_
   refine C_exit ?_
   iterate 2 refine K_exit ?_
   refine K_hit ?_
   refine K_then ?_
   refine Y_pk [6, 5, 4, 3, 0] ?_
   refine C_seq ?_
   have hat : atM l_l m_client = k := firstP_at hk9 hI (fun h9 => by rw [clt_at h9]; exact decide_eq_true (by omega))
   have k_d0 := k_l.drop k hk9
   refine C_region (l := [0, 1, 2, 3, 4]) rfl ?_
   refine Y_move ?_
   refine Y_load F.lay70 ?_
   refine X_buildSliceF rfl rfl F.elem35 F.zero70 rfl rfl (.cons rfl (by constructor) .nil) rfl rfl (by simp only [List.map_cons, List.map_nil] <;> rfl) rfl ?_; intro b25 hob26
   refine X_append (m := 1000000) rfl rfl rfl rfl rfl F.elem35 F.zero70 (by rfl) rfl (by assumption) (by repeat first | exact Rem.here _ | exact Rem.two | apply Rem.skip | apply Rem.over) (Src.own hob26.lens (by (refine rows_one1 ?_; (repeat (first | exact flat_nil | refine flat_id ?_ | (refine flat_one ?_ ?_; rfl))); done)) rfl (by repeat first | exact List.Mem.head _ | refine List.Mem.tail _ ?_ | refine List.mem_append_right _ ?_)) (by (simp; omega)) (by decide) rfl ?_; intro v29 hs28 ho27; obtain ⟨adv29, cpv29, rfl⟩ := ho27.val
   refine Y_assign ?_
   refine XD_end ?_
   refine K_then ?_
   refine Y_pk [5, 6, 4, 3, 0] ?_
   iterate 2 refine C_seq ?_
   refine C_region_any (l := [0, 1, 2, 3, 4, 5, 6, 7, 8, 9, 10, 11, 12, 13]) #[0, 0, 2, 7, 15, 31, 31, 127, 255, 511, 31, 1055, 4095, 8191] _ rfl (by kernel_rfl) (by kernel_rfl) St.drawn (fun _ h => h) ?_
   iterate 2 refine Y_move ?_
   refine Y_len_sl F.elem35 ?_
   refine Y_cmp ?_
   refine Y_move ?_
   refine XD_part 38 rfl (fun hc30 => ?_) (fun hc30 => ?_)
   ·replace hc30 := dT hc30
    (exfalso; omega)
   ·replace hc30 := dF hc30
    iterate 8 refine Y_skip ?_
    refine Y_pick ?_
    refine XD_end ?_
    refine K_then ?_
    refine Y_pk [47, 5, 6, 4, 0] ?_
    refine C_false rfl ?_
    refine C_skip ?_
    refine K_then ?_
    refine Y_pk [5, 6, 4, 0] ?_
    refine C_seq ?_
    refine C_region (l := [0, 1, 2, 3, 4, 5]) rfl ?_
    iterate 3 refine Y_move ?_
    refine X_slice rfl rfl rfl (.some (k := k) rfl (by rfl)) .none .none F.elem35 (by simp only [Option.getD_none]; omega) (by simp only [Option.getD_some, Option.getD_none]; omega) (by simp only [Option.getD_some, Option.getD_none]; omega) (by simp) (pieceV_drop (l := l_l) (k := k)) rfl ?_
    refine X_appendK (m := 1000000) rfl rfl rfl rfl rfl F.elem35 F.zero70 (by rfl) rfl (by assumption) (by repeat first | exact Rem.here _ | exact Rem.two | apply Rem.skip | apply Rem.over) ((by exact k_d0.h1)) MarkV.flat (by (simp; omega)) (by decide) rfl ?_; intro v40 hs39 ho38; obtain ⟨adv40, cpv40, rfl⟩ := ho38.val
    refine Y_assign ?_
    refine XD_end ?_
    refine K_then ?_
    refine Y_pk [4] ?_
    refine C_ret ?_
    refine K_end (.inr rfl) (.tmp rfl .nil) (fun w hw => ?_)
    have e7 : (((l_l.take k).map MarkV.segs ++ [MarkV.segs ⟨m_client, m_req, ⟨m_answer_code, m_answer_version, m_answer_has, m_answer_val⟩⟩]) ++ (l_l.drop (k)).map MarkV.segs) = (putM l_l ⟨m_client, m_req, ⟨m_answer_code, m_answer_version, m_answer_has, m_answer_val⟩⟩).map MarkV.segs := by
     unfold putM
     rw [show isM l_l (MarkV.client ⟨m_client, m_req, ⟨m_answer_code, m_answer_version, m_answer_has, m_answer_val⟩⟩) = false from (if h8 : k < l_l.length then (by show isM l_l m_client = false; rw [isM_at (by rw [hat]; exact h8)]; simp only [hat]; exact decide_eq_false (by omega)) else (by show isM l_l m_client = false; unfold isM; rw [List.getElem?_eq_none (by omega)])), show atM l_l (MarkV.client ⟨m_client, m_req, ⟨m_answer_code, m_answer_version, m_answer_has, m_answer_val⟩⟩) = k from hat]
     simp
    have ho7 := ho38
    replace ho7 := ho7.as9 e7
    have hw9 : St _ (hs39 ++ H) w := hw.c
    obtain ⟨M9, s9, g1, g2, g3, g4, g5⟩ := ho7.freezeK hw9
    exact ⟨_, M9, rfl, g1, g2, s9, g3, g4, g5⟩

theorem of_ok (M : Mem) (l : (Sl MarkV)) (c : Int) (hl0 : SlK M MarkV.segs 6 l) : Fs Try.prog 64 [Sl.val l, .int .i64 c] M (fun v => v =  (ofXv (ofX l.l c))) := by
  obtain ⟨l_a, l_c, l_l⟩ := l
  have k_l : SlK M MarkV.segs 6 ⟨l_a, l_c, l_l⟩ := hl0
  have s_l : SlM M l_a (l_l.map MarkV.segs) 6 := k_l.h1
  have n_l : (l_l.map MarkV.segs).length = l_l.length := List.length_map ..
  have m_l : l_l.length ≤ 9223372036854775807 := k_l.h2
  have c_l : l_l.length ≤ l_c := k_l.h3
  refine fs_enter Try.func64 rfl Try.ntmps64 rfl ?_; intro H
  refine C_seq ?_
  refine C_region (l := [0, 1]) rfl ?_
  refine Y_alloc F.zero70 ?_; intro b1
  refine Y_assign ?_
  refine XD_end ?_
  refine K_then ?_
  iterate 2 refine C_seq ?_
  refine C_region (l := [0]) rfl ?_
  refine Y_assign ?_
  refine XD_end ?_
  refine K_then ?_
  refine C_block ?_
  refine Y_pk [6, 5, 4, 0, 1] ?_
  refine C_loopS (.succ .zero) (fun (k : Nat) z => z = [(6, .int .i64 (k : Int))] ∧ k ≤ l_l.length ∧ (∀ j (h2 : j < l_l.length), j < k → ¬ l_l[j].client = c)) (fun k => l_l.length - k) (0) (⟨rfl, by omega, by (intro j h2 hj; omega)⟩) ?_
  rintro k _ ⟨rfl, hk, hI⟩
  iterate 2 refine C_seq ?_
  refine C_region (l := [0, 1, 2, 3]) rfl ?_
  iterate 2 refine Y_move ?_
  refine Y_len_sl F.elem35 ?_
  refine Y_cmp ?_
  refine XD_end ?_
  refine K_then ?_
  refine C_cond rfl (fun hc2 => ?_) (fun hc2 => ?_)
  ·replace hc2 := dT hc2
   refine C_skip ?_
   refine K_then ?_
   refine C_seq ?_
   refine C_block ?_
   refine C_seq ?_
   refine C_region (l := [0, 1, 2, 3, 4, 5, 6]) rfl ?_
   iterate 2 refine Y_move ?_
   refine X_indexAddr rfl rfl rfl rfl F.elem35 (by rfl) (by omega) (by exact SlM.plain (by assumption) (by (simp; omega))) rfl ?_
   refine X_fieldAddr_el rfl rfl rfl (by exact SlM.plain (by assumption) (by (simp; omega))) F.foff70_0 rfl ?_
   refine X_load_el rfl rfl rfl (by assumption) (by exact row_map (by omega)) F.lay3 rfl rfl rfl ?_
   refine Y_move ?_
   refine Y_cmp ?_
   refine XD_end ?_
   refine K_then ?_
   refine C_cond rfl (fun hc3 => ?_) (fun hc3 => ?_)
   ·replace hc3 := dT hc3
    simp only [List.get_eq_getElem] at hc3
    refine C_seq ?_
    refine C_region (l := [0, 1, 2, 3, 4, 5]) rfl ?_
    iterate 2 refine Y_move ?_
    refine X_indexAddr rfl rfl rfl rfl F.elem35 (by rfl) (by omega) (by exact SlM.plain (by assumption) (by (simp; omega))) rfl ?_
    refine X_load_el rfl rfl rfl (by assumption) (by exact row_map (by omega)) F.lay70 rfl rfl rfl ?_
    refine Y_store F.lay70 ?_
    refine Y_assign ?_
    refine XD_end ?_
    refine K_then ?_
    refine C_ret ?_
    refine K_retB ?_
    iterate 2 refine K_ret ?_
    refine K_retB ?_
    refine K_ret ?_
    refine K_end (.inr rfl) (.cell rfl (by repeat first | exact List.Mem.head _ | refine List.Mem.tail _ ?_ | refine List.mem_append_right _ ?_) F.lay70 rfl rfl (.tmp rfl .nil)) (fun w hw => ?_)
    refine ⟨_, rfl, (hw.c), ?_⟩
    clear hw
    rw [show ofX l_l c = (l_l[k], true) by unfold ofX; rw [ofM_first (by omega) (fun j h2 hj => hI j h2 hj) (by assumption)]]
    rfl
   ·replace hc3 := dF hc3
    simp only [List.get_eq_getElem] at hc3
    refine C_skip ?_
    refine K_out ?_
    refine K_then ?_
    refine C_region (l := [0, 1, 2]) rfl ?_
    refine Y_move ?_
    refine X_ari rfl rfl rfl rfl rfl (by exact wrap_in (by decide) (by omega)) rfl ?_
    refine Y_assign ?_
    refine XD_end ?_
    refine K_roundS (a' := [(6, _)]) (k + 1) (.cons (k := 6) rfl (.cons (k := 5) rfl (.cons (k := 4) rfl (.cons (k := 0) rfl (.cons (k := 1) rfl (.nil)))))) (fun w hw => by first | exact hw | exact hw.c) ?_ ?_
    ·refine ⟨rfl, by omega, ?_⟩
     (intro j h2 hj; rcases Nat.lt_or_ge j k with h9 | h9; exact hI j h2 h9; obtain rfl : j = k := (by omega); assumption)
    ·omega
  ·replace hc2 := dF hc2
   refine C_exit ?_
   iterate 2 refine K_exit ?_
   refine K_hit ?_
   refine K_then ?_
   refine Y_pk [5, 4] ?_
   refine C_seq ?_
   refine C_region (l := [0, 1, 2]) rfl ?_
   refine X_build rfl rfl F.bld70 (.nil) rfl rfl ?_
   refine Y_store F.lay70 ?_
   refine Y_assign ?_
   refine XD_end ?_
   refine K_then ?_
   refine Y_pk [5, 4] ?_
   refine C_ret ?_
   refine K_end (.inr rfl) (.cell rfl (by repeat first | exact List.Mem.head _ | refine List.Mem.tail _ ?_ | refine List.mem_append_right _ ?_) F.lay70 rfl rfl (.tmp rfl .nil)) (fun w hw => ?_)
   refine ⟨_, rfl, (hw.c), ?_⟩
   clear hw
   rw [show ofX l_l c = (MarkV.zero, false) by unfold ofX; rw [ofM_none (fun j h2 => hI j h2 (by omega))]]
   rfl

end Go.Proofs.Ytbafnjniijodfaa
/-
  What was one's own, and from here on never changes.
-/
set_option linter.unusedSimpArgs false
set_option linter.unusedVariables false
set_option linter.unnecessarySimpa false
namespace Go.Esp
section
variable {P : Program} {n : Sh} {Q : Exit → Act → World → Prop} {M : Mem} {H H0 : Hp} {e : Env} {x : Exit} {c : Code}
theorem OSl.frz {α : Type} {T sz k cp : Nat} {f : α → Segs} {l : List α} {ad : Option Addr} {hs : Hp} (ho : OSl T sz (.slice ad k cp) hs (l.map f)) {w : World} (hw : St M (hs ++ H) w) : ∃ M', M.le M' ∧ St M' H w ∧ SlK M' f sz ⟨ad, cp, l⟩ := by
  obtain ⟨M', ⟨a', c', l'⟩, h1, h2, h3, h4, h5⟩ := ho.freezeK hw
  simp only [Sl.val, Value.slice.injEq] at h3
  obtain ⟨rfl, _, rfl⟩ := h3
  simp only at h4
  subst h4
  exact ⟨M', h1, h2, h5⟩
/-- What was one's own never changes from here on. -/
theorem K_frz {α : Type} {T sz k cp : Nat} {f : α → Segs} {l : List α} {ad : Option Addr} {hs : Hp} (ho : OSl T sz (.slice ad k cp) hs (l.map f)) (hR : Rem hs H H0) (h : ∀ M', M.le M' → SlK M' f sz ⟨ad, cp, l⟩ → K n Q x (St M' H0) e) : K n Q x (St M H) e := by
  intro a w ha hw
  obtain ⟨M', h1, h2, h3⟩ := ho.frz (hw.perm hR.perm)
  exact h M' h1 h3 a w ha h2
theorem C_frz {α : Type} {T sz k cp : Nat} {f : α → Segs} {l : List α} {ad : Option Addr} {hs : Hp} (ho : OSl T sz (.slice ad k cp) hs (l.map f)) (hR : Rem hs H H0) (h : ∀ M', M.le M' → SlK M' f sz ⟨ad, cp, l⟩ → C P n c Q (St M' H0) e) : C P n c Q (St M H) e := by
  intro a w ha hw
  obtain ⟨M', h1, h2, h3⟩ := ho.frz (hw.perm hR.perm)
  exact h M' h1 h3 a w ha h2
end
end Go.Esp
/-
  Two cells merged.
-/
set_option linter.unusedSimpArgs false
set_option linter.unusedVariables false
set_option linter.unnecessarySimpa false
set_option maxRecDepth 8000
set_option maxHeartbeats 1000000
namespace Go.Proofs.Ytbafnjniijodfaa
open Go.Esp
theorem F.bld37 : Bld Try.prog 37 [[.one (.int .u64 0)], [.one (.bool false)], [.one (.string ⟨#[]⟩)], [.one (.slice none 0 0)]] := ⟨by kernel_rfl, by kernel_rfl⟩
theorem F.foff37_0 : foff Try.prog 37 0 = some 0 := by kernel_rfl
theorem F.foff70_1 : foff Try.prog 70 1 = some 1 := by kernel_rfl
theorem F.guard70 : Try.prog.eqGuardType Try.prog.depth 70 = false := by kernel_rfl
theorem F.kinds70 : kindsOf Try.prog 20 70 = some [.i .i64, .i .u64, .i .i64, .i .u64, .b, .s] := by kernel_rfl
theorem F.lay34 : lay Try.prog 34 = some (false, 1) := by kernel_rfl
theorem F.lay37 : lay Try.prog 37 = some (true, 4) := by kernel_rfl
theorem F.ok41 : okFn Try.prog 41 = true := by kernel_rfl
theorem F.ok72 : okFn Try.prog 72 = true := by kernel_rfl
theorem F.zero37 : zeroOf Try.prog 37 = some (aggV [.one (.int .u64 0), .one (.bool false), .one (.string ⟨#[]⟩), .one (.slice none 0 0)]) := by kernel_rfl

theorem Merge_ok (M : Mem) (a : CellV) (b : CellV) (ha0 : CellV.ok M a) (hb1 : CellV.ok M b) : Esp.Fn Try.prog 53 [a.enc, b.enc] M (fun M' v => ∃ c : CellV, v = .tuple #[c.enc, .int .i64 (mergeR a.pl b.pl).2] ∧ c.pl = (mergeR a.pl b.pl).1 ∧ CellV.ok M' c) := by
  obtain ⟨a_version, a_has, a_val, ⟨a_marks_a, a_marks_c, a_marks_l⟩⟩ := a
  obtain ⟨b_version, b_has, b_val, ⟨b_marks_a, b_marks_c, b_marks_l⟩⟩ := b
  have k_a_marks : SlK M MarkV.segs 6 ⟨a_marks_a, a_marks_c, a_marks_l⟩ := ha0.h0
  have s_a_marks : SlM M a_marks_a (a_marks_l.map MarkV.segs) 6 := k_a_marks.h1
  have n_a_marks : (a_marks_l.map MarkV.segs).length = a_marks_l.length := List.length_map ..
  have m_a_marks : a_marks_l.length ≤ 9223372036854775807 := k_a_marks.h2
  have c_a_marks : a_marks_l.length ≤ a_marks_c := k_a_marks.h3
  have k_b_marks : SlK M MarkV.segs 6 ⟨b_marks_a, b_marks_c, b_marks_l⟩ := hb1.h0
  have s_b_marks : SlM M b_marks_a (b_marks_l.map MarkV.segs) 6 := k_b_marks.h1
  have n_b_marks : (b_marks_l.map MarkV.segs).length = b_marks_l.length := List.length_map ..
  have m_b_marks : b_marks_l.length ≤ 9223372036854775807 := k_b_marks.h2
  have c_b_marks : b_marks_l.length ≤ b_marks_c := k_b_marks.h3
  refine fn_enter Try.func53 rfl Try.ntmps53 rfl ?_; intro H
  refine C_seq ?_
  refine C_region (l := [0, 1, 2, 3]) rfl ?_
  refine Y_box ?_; intro b1
  refine Y_box ?_; intro b2
  refine Y_alloc F.zero37 ?_; intro b3
  refine Y_assign ?_
  refine XD_end ?_
  refine K_then ?_
  refine Y_pk [5, 4, 3, 2] ?_
  iterate 2 refine C_seq ?_
  refine C_region (l := [0, 1, 2, 3, 4, 5, 6, 7]) rfl ?_
  refine Y_load F.lay37 ?_
  refine X_fs rfl rfl F.ok41 rfl (CelIs_ok _ ⟨_, _, _, ⟨_, _, _⟩⟩ (by assumption)) rfl ?_
  rintro _ rfl
  refine Y_not ?_
  refine Y_move ?_
  refine XD_part 14 rfl (fun hc4 => ?_) (fun hc4 => ?_)
  ·replace hc4 := nT hc4
   iterate 3 refine Y_skip ?_
   refine Y_pick ?_
   refine XD_end ?_
   refine K_then ?_
   refine Y_pk [18, 5, 4, 3, 2] ?_
   refine C_true rfl ?_
   refine C_seq ?_
   refine C_region (l := [0, 1, 2]) rfl ?_
   refine X_build rfl rfl F.bld37 (.nil) rfl rfl ?_
   refine Y_store F.lay37 ?_
   refine Y_assign ?_
   refine XD_end ?_
   refine K_then ?_
   refine Y_pk [5, 4, 3, 2] ?_
   refine C_ret ?_
   refine K_ret ?_
   refine K_end (.inr rfl) (.cell rfl (by repeat first | exact List.Mem.head _ | refine List.Mem.tail _ ?_ | refine List.mem_append_right _ ?_) F.lay37 rfl rfl (.tmp rfl .nil)) (fun w hw => ?_)
   refine ⟨_, M, rfl, Mem.le.refl M, hw.c, ?_⟩
   rw [show mergeR (CellV.pl ⟨a_version, a_has, a_val, ⟨a_marks_a, a_marks_c, a_marks_l⟩⟩) (CellV.pl ⟨b_version, b_has, b_val, ⟨b_marks_a, b_marks_c, b_marks_l⟩⟩) = (Cel.zero, 1) from if_neg (by rintro ⟨g1, g2⟩; contradiction)]
   exact ⟨CellV.zero, rfl, rfl, CellV.zero_ok M⟩
  ·replace hc4 := nF hc4
   refine Y_load F.lay37 ?_
   refine X_fs rfl rfl F.ok41 rfl (CelIs_ok _ ⟨_, _, _, ⟨_, _, _⟩⟩ (by assumption)) rfl ?_
   rintro _ rfl
   refine Y_not ?_
   refine Y_pick ?_
   refine XD_end ?_
   refine K_then ?_
   refine Y_pk [18, 5, 4, 3, 2] ?_
   refine C_cond rfl (fun hc5 => ?_) (fun hc5 => ?_)
   ·replace hc5 := nT hc5
    refine C_seq ?_
    refine C_region (l := [0, 1, 2]) rfl ?_
    refine X_build rfl rfl F.bld37 (.nil) rfl rfl ?_
    refine Y_store F.lay37 ?_
    refine Y_assign ?_
    refine XD_end ?_
    refine K_then ?_
    refine Y_pk [5, 4, 3, 2] ?_
    refine C_ret ?_
    refine K_ret ?_
    refine K_end (.inr rfl) (.cell rfl (by repeat first | exact List.Mem.head _ | refine List.Mem.tail _ ?_ | refine List.mem_append_right _ ?_) F.lay37 rfl rfl (.tmp rfl .nil)) (fun w hw => ?_)
    refine ⟨_, M, rfl, Mem.le.refl M, hw.c, ?_⟩
    rw [show mergeR (CellV.pl ⟨a_version, a_has, a_val, ⟨a_marks_a, a_marks_c, a_marks_l⟩⟩) (CellV.pl ⟨b_version, b_has, b_val, ⟨b_marks_a, b_marks_c, b_marks_l⟩⟩) = (Cel.zero, 1) from if_neg (by rintro ⟨g1, g2⟩; contradiction)]
    exact ⟨CellV.zero, rfl, rfl, CellV.zero_ok M⟩
   ·replace hc5 := nF hc5
    refine C_skip ?_
    refine K_then ?_
    refine Y_pk [5, 4, 3, 2] ?_
    refine C_seq ?_
    have ha : IsCel (CellV.pl ⟨a_version, a_has, a_val, ⟨a_marks_a, a_marks_c, a_marks_l⟩⟩) := by assumption
    have hb : IsCel (CellV.pl ⟨b_version, b_has, b_val, ⟨b_marks_a, b_marks_c, b_marks_l⟩⟩) := by assumption
    have ham : MarksOk a_marks_l := ha.2
    have hbm : MarksOk b_marks_l := hb.2
    have hal := marks_len ham
    have hbl := marks_len hbm
    refine C_region (l := [0, 1, 2]) rfl ?_
    refine Y_load F.lay37 ?_
    refine Y_alloc F.zero37 ?_; intro b6
    refine Y_store F.lay37 ?_
    refine XD_end ?_
    refine K_then ?_
    refine Y_pk [6, 5, 4, 3, 2] ?_
    iterate 2 refine C_seq ?_
    refine C_region (l := [0, 1, 2, 3, 4]) rfl ?_
    refine Y_fieldAddr F.foff37_0 ?_
    refine Y_load F.lay34 ?_
    refine Y_fieldAddr F.foff37_0 ?_
    refine Y_load F.lay34 ?_
    refine Y_cmp ?_
    refine XD_end ?_
    refine K_then ?_
    refine Y_pk [25, 6, 5, 4, 3, 2] ?_
    refine C_cond rfl (fun hc7 => ?_) (fun hc7 => ?_)
    ·replace hc7 := dT hc7
     refine C_region (l := [0, 1]) rfl ?_
     refine Y_load F.lay37 ?_
     refine Y_store F.lay37 ?_
     refine XD_end ?_
     refine K_then ?_
     refine Y_pk [6, 5, 4, 3, 2] ?_
     refine C_seq ?_
     refine C_region (l := [0, 1, 2, 3, 4]) rfl ?_
     refine Y_fieldAddr F.foff37_3 ?_
     refine Y_load F.lay35 ?_
     refine X_fhR rfl rfl F.ok70 rfl (CloneK_ok _ _ _ _ k_a_marks (by omega)) (by repeat first | exact Rem.here _ | exact Rem.two | apply Rem.skip | apply Rem.over) (fun _ _ _ hm hw => (hw.lower (by exact hm)).c) (putE_some rfl) ?_
     rintro v0 M1 hs0 hm0 ⟨hM1, ho0⟩; subst M1
     obtain ⟨ad0, cp0, rfl⟩ := ho0.valL
     refine Y_fieldAddr F.foff37_3 ?_
     refine Y_store F.lay35 ?_
     refine XD_end ?_
     refine K_then ?_
     refine Y_pk [6, 5, 4, 3, 2] ?_
     iterate 2 refine C_seq ?_
     refine C_frz ho0 (by repeat first | exact Rem.here _ | exact Rem.two | apply Rem.skip | apply Rem.over) (fun M0 hm0 k_s0 => ?_)
     have hs0l : a_marks_l = (b_marks_l.take 0).foldl (addM a_marks_l) a_marks_l := rfl
     obtain ⟨s0, hs0⟩ : ∃ s0 : Sl MarkV, s0 = ⟨ad0, cp0, a_marks_l⟩ := ⟨_, rfl⟩
     have e0 : Value.slice ad0 a_marks_l.length cp0 = s0.val := by rw [hs0]; rfl
     rw [e0]
     rw [← hs0] at k_s0
     replace hs0l : s0.l = (b_marks_l.take 0).foldl (addM a_marks_l) a_marks_l := by rw [hs0]; exact hs0l
     have s_b0 := s_b_marks.mono hm0
     refine C_region (l := [0, 1, 2, 3]) rfl ?_
     refine Y_fieldAddr F.foff37_3 ?_
     refine Y_load F.lay35 ?_
     refine Y_len_sl F.elem35 ?_
     refine Y_move ?_
     refine XD_end ?_
     refine K_then ?_
     refine Y_pk [34, 33, 32, 6, 5, 4, 2] ?_
     refine C_block ?_
     refine Y_pk [34, 33, 32, 6, 5, 4, 2] ?_
     refine C_loopO (Hin := [(b6, rowO [.one (.int .u64 b_version), .one (.bool b_has), .one (.string b_val), .one (Sl.val s0)] 37)]) (.succ .zero) (by repeat first | exact Rem.here _ | exact Rem.two | apply Rem.skip | apply Rem.over) (fun (k : Nat) M1 h1 z => ∃ s : Sl MarkV, z = [(34, .int .i64 (k : Int))] ∧ k ≤ b_marks_l.length ∧ s.l = (b_marks_l.take k).foldl (addM a_marks_l) a_marks_l ∧ SlK M1 MarkV.segs 6 s ∧ h1 = [(b6, rowO [.one (.int .u64 b_version), .one (.bool b_has), .one (.string b_val), .one (Sl.val s)] 37)]) (fun k => b_marks_l.length - k) (0) (⟨s0, rfl, by omega, hs0l, k_s0, rfl⟩) ?_
     rintro k M1 h1 z hm1 ⟨⟨s_a, s_c, s_l⟩, rfl, hk, hsl, k_s, rfl⟩
     simp only at hsl
     have hmm := hm0.trans hm1
     have s_b1 := s_b_marks.mono hmm
     have s_a1 := s_a_marks.mono hmm
     have hsok : MarksOk s_l := by rw [hsl]; exact foldM_ok ham (fun m hm => hbm.1 m (List.mem_of_mem_take hm))
     refine C_seq ?_
     refine C_region (l := [0]) rfl ?_
     refine Y_cmp ?_
     refine XD_end ?_
     refine K_then ?_
     refine C_seq ?_
     refine C_cond rfl (fun hc8 => ?_) (fun hc8 => ?_)
     ·replace hc8 := dT hc8
      refine C_skip ?_
      refine K_then ?_
      refine C_seq ?_
      refine C_block ?_
      refine C_seq ?_
      refine C_region (l := [0, 1, 2, 3]) rfl ?_
      refine X_indexAddr rfl rfl rfl rfl F.elem35 (by rfl) (by omega) (by exact SlM.plain (by assumption) (by (simp; omega))) rfl ?_
      refine X_load_el rfl rfl rfl (by assumption) (by exact row_map (by omega)) F.lay70 rfl rfl rfl ?_
      refine Y_alloc F.zero70 ?_; intro b9
      refine Y_store F.lay70 ?_
      refine XD_end ?_
      refine K_then ?_
      refine C_seq ?_
      have hmk : MarkOk b_marks_l[k] := hbm.1 _ (List.getElem_mem (by omega))
      have hmc := hmk.1
      refine C_region (l := [0, 1, 2, 3, 4, 5, 6, 7, 8, 9]) rfl ?_
      refine Y_fieldAddr F.foff37_3 ?_
      refine Y_load F.lay35 ?_
      refine Y_fieldAddr F.foff70_0 ?_
      refine Y_load F.lay3 ?_
      refine X_fs rfl rfl F.ok71 rfl (find_ok _ ⟨a_marks_a, a_marks_c, a_marks_l⟩ b_marks_l[k].client (k_a_marks.mono hmm) ham hmc) rfl ?_
      rintro _ rfl
      refine Y_move ?_
      iterate 2 refine Y_extract ?_
      iterate 2 refine Y_assign ?_
      refine XD_end ?_
      refine K_then ?_
      refine C_seq ?_
      refine C_region_any (l := [0, 1, 2, 3, 4, 5, 6, 7, 8, 9, 10, 11, 12, 13, 14, 15, 16, 17, 18, 19, 20, 21]) #[0, 1, 3, 7, 15, 7, 63, 127, 7, 511, 1023, 2047, 4095, 2047, 16383, 32767, 65535, 2047, 133119, 524287, 1048575, 2097151] _ rfl (by kernel_rfl) (by kernel_rfl) St.drawn (fun _ h => h) ?_
      refine Y_move ?_
      refine Y_not ?_
      refine Y_move ?_
      refine XD_part 48 rfl (fun hc10 => ?_) (fun hc10 => ?_)
      ·skip
       simp only [AnswerV.eta, MarkV.eta, CellV.eta, HeldV.eta, PeerV.eta] at hc10
       iterate 18 refine Y_skip ?_
       refine Y_pick ?_
       refine XD_end ?_
       refine K_then ?_
       refine C_true rfl ?_
       refine C_region (l := [0, 1, 2, 3, 4, 5]) rfl ?_
       refine Y_fieldAddr F.foff37_3 ?_
       refine Y_load F.lay35 ?_
       refine Y_load F.lay70 ?_
       refine X_fn rfl rfl F.ok72 rfl (put_ok _ ⟨s_a, s_c, s_l⟩ b_marks_l[k] k_s hsok hmk) rfl ?_
       rintro _ M2 hm2 ⟨⟨q_a, q_c, q_l⟩, rfl, hql, k_q⟩
       simp only at hql
       refine Y_fieldAddr F.foff37_3 ?_
       refine Y_store F.lay35 ?_
       refine XD_end ?_
       refine K_out ?_
       refine K_then ?_
       refine C_region (l := [0, 1]) rfl ?_
       refine X_ari rfl rfl rfl rfl rfl (by exact wrap_in (by decide) (by omega)) rfl ?_
       refine Y_move ?_
       refine XD_end ?_
       refine K_roundO (a' := [(34, _)]) (k + 1) ([(b6, rowO [.one (.int .u64 b_version), .one (.bool b_has), .one (.string b_val), .one (Value.slice q_a q_l.length q_c)] 37)]) (.cons (k := 34) rfl (.cons (k := 33) rfl (.cons (k := 32) rfl (.cons (k := 6) rfl (.cons (k := 5) rfl (.cons (k := 4) rfl (.cons (k := 2) rfl (.nil)))))))) (hm1.trans hm2) (fun w hw => by first | exact hw | exact hw.c) ?_ ?_
       ·refine ⟨⟨q_a, q_c, q_l⟩, rfl, by omega, ?_, k_q, rfl⟩
        show _ = _
        rw [foldM_step (by omega), ← hsl]
        unfold addM
        rw [hql]; rw [ofM_is ham, dif_neg (by rw [(show isM a_marks_l b_marks_l[k].client = false from by have h9 := ‹(!isM a_marks_l b_marks_l[k].client) = true›; simpa using h9)]; decide)]
       ·omega
      ·skip
       simp only [AnswerV.eta, MarkV.eta, CellV.eta, HeldV.eta, PeerV.eta] at hc10
       refine Y_fieldAddr F.foff37_3 ?_
       refine Y_load F.lay35 ?_
       refine Y_move ?_
       have hif : isM a_marks_l b_marks_l[k].client = true := (show isM a_marks_l b_marks_l[k].client = true from by have h9 := ‹(!isM a_marks_l b_marks_l[k].client) = false›; simpa using h9)
       have hlt := isM_lt hif
       refine X_indexAddr rfl rfl rfl rfl F.elem35 (by rfl) (by omega) (by exact SlM.plain (by assumption) (by (simp; omega))) rfl ?_
       refine X_load_el rfl rfl rfl (by assumption) (by exact row_map (by omega)) F.lay70 rfl rfl rfl ?_
       refine Y_load F.lay70 ?_
       refine X_same (m := 20) rfl rfl rfl rfl rfl (by constructor) (by constructor) F.lay70 F.kinds70 rfl F.guard70 (by exact FitMarkV _) (by exact FitMarkV _) rfl rfl rfl ?_; intro c11 he12
       replace he12 : c11 = true ↔ ¬ (Segs.cells _ = Segs.cells _) := he12
       obtain rfl := neD he12 (MarkV.inj (x := ⟨_, _, ⟨_, _, _, _⟩⟩) (y := ⟨_, _, ⟨_, _, _, _⟩⟩)); clear he12
       refine Y_move ?_
       refine XD_part 56 rfl (fun hc13 => ?_) (fun hc13 => ?_)
       ·replace hc13 := nT hc13
        simp only [AnswerV.eta, MarkV.eta, CellV.eta, HeldV.eta, PeerV.eta] at hc13
        simp only [List.get_eq_getElem] at hc13
        refine Y_fieldAddr F.foff37_3 ?_
        refine Y_load F.lay35 ?_
        refine Y_move ?_
        refine X_indexAddr rfl rfl rfl rfl F.elem35 (by rfl) (by omega) (by exact SlM.plain (by assumption) (by (simp; omega))) rfl ?_
        refine X_fieldAddr_el rfl rfl rfl (by exact SlM.plain (by assumption) (by (simp; omega))) F.foff70_1 rfl ?_
        refine X_load_el rfl rfl rfl (by assumption) (by exact row_map (by omega)) F.lay34 rfl rfl rfl ?_
        refine Y_fieldAddr F.foff70_1 ?_
        refine Y_load F.lay34 ?_
        refine Y_cmp ?_
        iterate 2 refine Y_pick ?_
        refine XD_end ?_
        refine K_then ?_
        refine C_cond rfl (fun hc14 => ?_) (fun hc14 => ?_)
        ·replace hc14 := dT hc14
         simp only [AnswerV.eta, MarkV.eta, CellV.eta, HeldV.eta, PeerV.eta] at hc14
         simp only [List.get_eq_getElem] at hc14
         refine C_region (l := [0, 1, 2, 3, 4, 5]) rfl ?_
         refine Y_fieldAddr F.foff37_3 ?_
         refine Y_load F.lay35 ?_
         refine Y_load F.lay70 ?_
         refine X_fn rfl rfl F.ok72 rfl (put_ok _ ⟨s_a, s_c, s_l⟩ b_marks_l[k] k_s hsok hmk) rfl ?_
         rintro _ M2 hm2 ⟨⟨q_a, q_c, q_l⟩, rfl, hql, k_q⟩
         simp only at hql
         refine Y_fieldAddr F.foff37_3 ?_
         refine Y_store F.lay35 ?_
         refine XD_end ?_
         refine K_out ?_
         refine K_then ?_
         refine C_region (l := [0, 1]) rfl ?_
         refine X_ari rfl rfl rfl rfl rfl (by exact wrap_in (by decide) (by omega)) rfl ?_
         refine Y_move ?_
         refine XD_end ?_
         refine K_roundO (a' := [(34, _)]) (k + 1) ([(b6, rowO [.one (.int .u64 b_version), .one (.bool b_has), .one (.string b_val), .one (Value.slice q_a q_l.length q_c)] 37)]) (.cons (k := 34) rfl (.cons (k := 33) rfl (.cons (k := 32) rfl (.cons (k := 6) rfl (.cons (k := 5) rfl (.cons (k := 4) rfl (.cons (k := 2) rfl (.nil)))))))) (hm1.trans hm2) (fun w hw => by first | exact hw | exact hw.c) ?_ ?_
         ·refine ⟨⟨q_a, q_c, q_l⟩, rfl, by omega, ?_, k_q, rfl⟩
          show _ = _
          rw [foldM_step (by omega), ← hsl]
          unfold addM
          rw [hql]; rw [ofM_is ham, dif_pos (show isM a_marks_l b_marks_l[k].client = true from by have h9 := ‹(!isM a_marks_l b_marks_l[k].client) = false›; simpa using h9)]
          exact (if_pos (by assumption)).symm
         ·omega
        ·replace hc14 := dF hc14
         simp only [AnswerV.eta, MarkV.eta, CellV.eta, HeldV.eta, PeerV.eta] at hc14
         simp only [List.get_eq_getElem] at hc14
         refine C_skip ?_
         refine K_out ?_
         refine K_then ?_
         refine C_region (l := [0, 1]) rfl ?_
         refine X_ari rfl rfl rfl rfl rfl (by exact wrap_in (by decide) (by omega)) rfl ?_
         refine Y_move ?_
         refine XD_end ?_
         refine K_roundO (a' := [(34, _)]) (k + 1) ([(b6, rowO [.one (.int .u64 b_version), .one (.bool b_has), .one (.string b_val), .one (Sl.val (⟨s_a, s_c, s_l⟩ : Sl MarkV))] 37)]) (.cons (k := 34) rfl (.cons (k := 33) rfl (.cons (k := 32) rfl (.cons (k := 6) rfl (.cons (k := 5) rfl (.cons (k := 4) rfl (.cons (k := 2) rfl (.nil)))))))) hm1 (fun w hw => by first | exact hw | exact hw.c) ?_ ?_
         ·refine ⟨⟨s_a, s_c, s_l⟩, rfl, by omega, ?_, k_s, rfl⟩
          show _ = _
          rw [foldM_step (by omega), ← hsl]
          unfold addM
          rw [ofM_is ham, dif_pos (show isM a_marks_l b_marks_l[k].client = true from by have h9 := ‹(!isM a_marks_l b_marks_l[k].client) = false›; simpa using h9)]
          refine (if_neg (fun h9 => ?_)).symm
          exact absurd h9 (by assumption)
         ·omega
       ·replace hc13 := nF hc13
        simp only [AnswerV.eta, MarkV.eta, CellV.eta, HeldV.eta, PeerV.eta] at hc13
        simp only [List.get_eq_getElem] at hc13
        iterate 9 refine Y_skip ?_
        iterate 2 refine Y_pick ?_
        refine XD_end ?_
        refine K_then ?_
        refine C_false rfl ?_
        refine C_skip ?_
        refine K_out ?_
        refine K_then ?_
        refine C_region (l := [0, 1]) rfl ?_
        refine X_ari rfl rfl rfl rfl rfl (by exact wrap_in (by decide) (by omega)) rfl ?_
        refine Y_move ?_
        refine XD_end ?_
        refine K_roundO (a' := [(34, _)]) (k + 1) ([(b6, rowO [.one (.int .u64 b_version), .one (.bool b_has), .one (.string b_val), .one (Sl.val (⟨s_a, s_c, s_l⟩ : Sl MarkV))] 37)]) (.cons (k := 34) rfl (.cons (k := 33) rfl (.cons (k := 32) rfl (.cons (k := 6) rfl (.cons (k := 5) rfl (.cons (k := 4) rfl (.cons (k := 2) rfl (.nil)))))))) hm1 (fun w hw => by first | exact hw | exact hw.c) ?_ ?_
        ·refine ⟨⟨s_a, s_c, s_l⟩, rfl, by omega, ?_, k_s, rfl⟩
         show _ = _
         rw [foldM_step (by omega), ← hsl]
         unfold addM
         rw [ofM_is ham, dif_pos (show isM a_marks_l b_marks_l[k].client = true from by have h9 := ‹(!isM a_marks_l b_marks_l[k].client) = false›; simpa using h9)]
         refine (if_neg (fun h9 => ?_)).symm
         (have e9 : a_marks_l[atM a_marks_l b_marks_l[k].client] = b_marks_l[k] := (by assumption); rw [e9] at h9; omega)
        ·omega
     ·replace hc8 := dF hc8
      refine C_exit ?_
      iterate 2 refine K_exit ?_
      refine K_hit ?_
      refine K_then ?_
      refine Y_pk [6, 5, 4] ?_
      refine C_seq ?_
      refine C_region (l := [0, 1, 2]) rfl ?_
      refine Y_load F.lay37 ?_
      refine Y_store F.lay37 ?_
      refine Y_assign ?_
      refine XD_end ?_
      refine K_then ?_
      refine Y_pk [5, 4] ?_
      refine C_ret ?_
      refine K_end (.inr rfl) (.cell rfl (by repeat first | exact List.Mem.head _ | refine List.Mem.tail _ ?_ | refine List.mem_append_right _ ?_) F.lay37 rfl rfl (.tmp rfl .nil)) (fun w hw => ?_)
      obtain rfl : k = b_marks_l.length := by omega
      rw [List.take_length] at hsl
      refine ⟨_, M1, rfl, hmm, hw.c, ?_⟩
      rw [show mergeR (CellV.pl ⟨a_version, a_has, a_val, ⟨a_marks_a, a_marks_c, a_marks_l⟩⟩) (CellV.pl ⟨b_version, b_has, b_val, ⟨b_marks_a, b_marks_c, b_marks_l⟩⟩) = (mergeC _ _, 0) from if_pos ⟨ha, hb⟩]
      refine ⟨⟨b_version, b_has, b_val, ⟨s_a, s_c, s_l⟩⟩, rfl, ?_, ⟨k_s⟩⟩
      unfold mergeC
      rw [if_pos (by simp only [CellV.pl]; omega)]
      simp only [CellV.pl, hsl]
      rfl
    ·replace hc7 := dF hc7
     refine C_skip ?_
     refine K_then ?_
     refine Y_pk [6, 5, 4, 3, 2] ?_
     refine C_seq ?_
     refine C_region (l := [0, 1, 2, 3, 4]) rfl ?_
     refine Y_fieldAddr F.foff37_3 ?_
     refine Y_load F.lay35 ?_
     refine X_fhR rfl rfl F.ok70 rfl (CloneK_ok _ _ _ _ k_a_marks (by omega)) (by repeat first | exact Rem.here _ | exact Rem.two | apply Rem.skip | apply Rem.over) (fun _ _ _ hm hw => (hw.lower (by exact hm)).c) (putE_some rfl) ?_
     rintro v0 M1 hs0 hm0 ⟨hM1, ho0⟩; subst M1
     obtain ⟨ad0, cp0, rfl⟩ := ho0.valL
     refine Y_fieldAddr F.foff37_3 ?_
     refine Y_store F.lay35 ?_
     refine XD_end ?_
     refine K_then ?_
     refine Y_pk [6, 5, 4, 3, 2] ?_
     iterate 2 refine C_seq ?_
     refine C_frz ho0 (by repeat first | exact Rem.here _ | exact Rem.two | apply Rem.skip | apply Rem.over) (fun M0 hm0 k_s0 => ?_)
     have hs0l : a_marks_l = (b_marks_l.take 0).foldl (addM a_marks_l) a_marks_l := rfl
     obtain ⟨s0, hs0⟩ : ∃ s0 : Sl MarkV, s0 = ⟨ad0, cp0, a_marks_l⟩ := ⟨_, rfl⟩
     have e0 : Value.slice ad0 a_marks_l.length cp0 = s0.val := by rw [hs0]; rfl
     rw [e0]
     rw [← hs0] at k_s0
     replace hs0l : s0.l = (b_marks_l.take 0).foldl (addM a_marks_l) a_marks_l := by rw [hs0]; exact hs0l
     have s_b0 := s_b_marks.mono hm0
     refine C_region (l := [0, 1, 2, 3]) rfl ?_
     refine Y_fieldAddr F.foff37_3 ?_
     refine Y_load F.lay35 ?_
     refine Y_len_sl F.elem35 ?_
     refine Y_move ?_
     refine XD_end ?_
     refine K_then ?_
     refine Y_pk [34, 33, 32, 6, 5, 4, 2] ?_
     refine C_block ?_
     refine Y_pk [34, 33, 32, 6, 5, 4, 2] ?_
     refine C_loopO (Hin := [(b6, rowO [.one (.int .u64 a_version), .one (.bool a_has), .one (.string a_val), .one (Sl.val s0)] 37)]) (.succ .zero) (by repeat first | exact Rem.here _ | exact Rem.two | apply Rem.skip | apply Rem.over) (fun (k : Nat) M1 h1 z => ∃ s : Sl MarkV, z = [(34, .int .i64 (k : Int))] ∧ k ≤ b_marks_l.length ∧ s.l = (b_marks_l.take k).foldl (addM a_marks_l) a_marks_l ∧ SlK M1 MarkV.segs 6 s ∧ h1 = [(b6, rowO [.one (.int .u64 a_version), .one (.bool a_has), .one (.string a_val), .one (Sl.val s)] 37)]) (fun k => b_marks_l.length - k) (0) (⟨s0, rfl, by omega, hs0l, k_s0, rfl⟩) ?_
     rintro k M1 h1 z hm1 ⟨⟨s_a, s_c, s_l⟩, rfl, hk, hsl, k_s, rfl⟩
     simp only at hsl
     have hmm := hm0.trans hm1
     have s_b1 := s_b_marks.mono hmm
     have s_a1 := s_a_marks.mono hmm
     have hsok : MarksOk s_l := by rw [hsl]; exact foldM_ok ham (fun m hm => hbm.1 m (List.mem_of_mem_take hm))
     refine C_seq ?_
     refine C_region (l := [0]) rfl ?_
     refine Y_cmp ?_
     refine XD_end ?_
     refine K_then ?_
     refine C_seq ?_
     refine C_cond rfl (fun hc15 => ?_) (fun hc15 => ?_)
     ·replace hc15 := dT hc15
      refine C_skip ?_
      refine K_then ?_
      refine C_seq ?_
      refine C_block ?_
      refine C_seq ?_
      refine C_region (l := [0, 1, 2, 3]) rfl ?_
      refine X_indexAddr rfl rfl rfl rfl F.elem35 (by rfl) (by omega) (by exact SlM.plain (by assumption) (by (simp; omega))) rfl ?_
      refine X_load_el rfl rfl rfl (by assumption) (by exact row_map (by omega)) F.lay70 rfl rfl rfl ?_
      refine Y_alloc F.zero70 ?_; intro b16
      refine Y_store F.lay70 ?_
      refine XD_end ?_
      refine K_then ?_
      refine C_seq ?_
      have hmk : MarkOk b_marks_l[k] := hbm.1 _ (List.getElem_mem (by omega))
      have hmc := hmk.1
      refine C_region (l := [0, 1, 2, 3, 4, 5, 6, 7, 8, 9]) rfl ?_
      refine Y_fieldAddr F.foff37_3 ?_
      refine Y_load F.lay35 ?_
      refine Y_fieldAddr F.foff70_0 ?_
      refine Y_load F.lay3 ?_
      refine X_fs rfl rfl F.ok71 rfl (find_ok _ ⟨a_marks_a, a_marks_c, a_marks_l⟩ b_marks_l[k].client (k_a_marks.mono hmm) ham hmc) rfl ?_
      rintro _ rfl
      refine Y_move ?_
      iterate 2 refine Y_extract ?_
      iterate 2 refine Y_assign ?_
      refine XD_end ?_
      refine K_then ?_
      refine C_seq ?_
      refine C_region_any (l := [0, 1, 2, 3, 4, 5, 6, 7, 8, 9, 10, 11, 12, 13, 14, 15, 16, 17, 18, 19, 20, 21]) #[0, 1, 3, 7, 15, 7, 63, 127, 7, 511, 1023, 2047, 4095, 2047, 16383, 32767, 65535, 2047, 133119, 524287, 1048575, 2097151] _ rfl (by kernel_rfl) (by kernel_rfl) St.drawn (fun _ h => h) ?_
      refine Y_move ?_
      refine Y_not ?_
      refine Y_move ?_
      refine XD_part 48 rfl (fun hc17 => ?_) (fun hc17 => ?_)
      ·skip
       simp only [AnswerV.eta, MarkV.eta, CellV.eta, HeldV.eta, PeerV.eta] at hc17
       iterate 18 refine Y_skip ?_
       refine Y_pick ?_
       refine XD_end ?_
       refine K_then ?_
       refine C_true rfl ?_
       refine C_region (l := [0, 1, 2, 3, 4, 5]) rfl ?_
       refine Y_fieldAddr F.foff37_3 ?_
       refine Y_load F.lay35 ?_
       refine Y_load F.lay70 ?_
       refine X_fn rfl rfl F.ok72 rfl (put_ok _ ⟨s_a, s_c, s_l⟩ b_marks_l[k] k_s hsok hmk) rfl ?_
       rintro _ M2 hm2 ⟨⟨q_a, q_c, q_l⟩, rfl, hql, k_q⟩
       simp only at hql
       refine Y_fieldAddr F.foff37_3 ?_
       refine Y_store F.lay35 ?_
       refine XD_end ?_
       refine K_out ?_
       refine K_then ?_
       refine C_region (l := [0, 1]) rfl ?_
       refine X_ari rfl rfl rfl rfl rfl (by exact wrap_in (by decide) (by omega)) rfl ?_
       refine Y_move ?_
       refine XD_end ?_
       refine K_roundO (a' := [(34, _)]) (k + 1) ([(b6, rowO [.one (.int .u64 a_version), .one (.bool a_has), .one (.string a_val), .one (Value.slice q_a q_l.length q_c)] 37)]) (.cons (k := 34) rfl (.cons (k := 33) rfl (.cons (k := 32) rfl (.cons (k := 6) rfl (.cons (k := 5) rfl (.cons (k := 4) rfl (.cons (k := 2) rfl (.nil)))))))) (hm1.trans hm2) (fun w hw => by first | exact hw | exact hw.c) ?_ ?_
       ·refine ⟨⟨q_a, q_c, q_l⟩, rfl, by omega, ?_, k_q, rfl⟩
        show _ = _
        rw [foldM_step (by omega), ← hsl]
        unfold addM
        rw [hql]; rw [ofM_is ham, dif_neg (by rw [(show isM a_marks_l b_marks_l[k].client = false from by have h9 := ‹(!isM a_marks_l b_marks_l[k].client) = true›; simpa using h9)]; decide)]
       ·omega
      ·skip
       simp only [AnswerV.eta, MarkV.eta, CellV.eta, HeldV.eta, PeerV.eta] at hc17
       refine Y_fieldAddr F.foff37_3 ?_
       refine Y_load F.lay35 ?_
       refine Y_move ?_
       have hif : isM a_marks_l b_marks_l[k].client = true := (show isM a_marks_l b_marks_l[k].client = true from by have h9 := ‹(!isM a_marks_l b_marks_l[k].client) = false›; simpa using h9)
       have hlt := isM_lt hif
       refine X_indexAddr rfl rfl rfl rfl F.elem35 (by rfl) (by omega) (by exact SlM.plain (by assumption) (by (simp; omega))) rfl ?_
       refine X_load_el rfl rfl rfl (by assumption) (by exact row_map (by omega)) F.lay70 rfl rfl rfl ?_
       refine Y_load F.lay70 ?_
       refine X_same (m := 20) rfl rfl rfl rfl rfl (by constructor) (by constructor) F.lay70 F.kinds70 rfl F.guard70 (by exact FitMarkV _) (by exact FitMarkV _) rfl rfl rfl ?_; intro c18 he19
       replace he19 : c18 = true ↔ ¬ (Segs.cells _ = Segs.cells _) := he19
       obtain rfl := neD he19 (MarkV.inj (x := ⟨_, _, ⟨_, _, _, _⟩⟩) (y := ⟨_, _, ⟨_, _, _, _⟩⟩)); clear he19
       refine Y_move ?_
       refine XD_part 56 rfl (fun hc20 => ?_) (fun hc20 => ?_)
       ·replace hc20 := nT hc20
        simp only [AnswerV.eta, MarkV.eta, CellV.eta, HeldV.eta, PeerV.eta] at hc20
        simp only [List.get_eq_getElem] at hc20
        refine Y_fieldAddr F.foff37_3 ?_
        refine Y_load F.lay35 ?_
        refine Y_move ?_
        refine X_indexAddr rfl rfl rfl rfl F.elem35 (by rfl) (by omega) (by exact SlM.plain (by assumption) (by (simp; omega))) rfl ?_
        refine X_fieldAddr_el rfl rfl rfl (by exact SlM.plain (by assumption) (by (simp; omega))) F.foff70_1 rfl ?_
        refine X_load_el rfl rfl rfl (by assumption) (by exact row_map (by omega)) F.lay34 rfl rfl rfl ?_
        refine Y_fieldAddr F.foff70_1 ?_
        refine Y_load F.lay34 ?_
        refine Y_cmp ?_
        iterate 2 refine Y_pick ?_
        refine XD_end ?_
        refine K_then ?_
        refine C_cond rfl (fun hc21 => ?_) (fun hc21 => ?_)
        ·replace hc21 := dT hc21
         simp only [AnswerV.eta, MarkV.eta, CellV.eta, HeldV.eta, PeerV.eta] at hc21
         simp only [List.get_eq_getElem] at hc21
         refine C_region (l := [0, 1, 2, 3, 4, 5]) rfl ?_
         refine Y_fieldAddr F.foff37_3 ?_
         refine Y_load F.lay35 ?_
         refine Y_load F.lay70 ?_
         refine X_fn rfl rfl F.ok72 rfl (put_ok _ ⟨s_a, s_c, s_l⟩ b_marks_l[k] k_s hsok hmk) rfl ?_
         rintro _ M2 hm2 ⟨⟨q_a, q_c, q_l⟩, rfl, hql, k_q⟩
         simp only at hql
         refine Y_fieldAddr F.foff37_3 ?_
         refine Y_store F.lay35 ?_
         refine XD_end ?_
         refine K_out ?_
         refine K_then ?_
         refine C_region (l := [0, 1]) rfl ?_
         refine X_ari rfl rfl rfl rfl rfl (by exact wrap_in (by decide) (by omega)) rfl ?_
         refine Y_move ?_
         refine XD_end ?_
         refine K_roundO (a' := [(34, _)]) (k + 1) ([(b6, rowO [.one (.int .u64 a_version), .one (.bool a_has), .one (.string a_val), .one (Value.slice q_a q_l.length q_c)] 37)]) (.cons (k := 34) rfl (.cons (k := 33) rfl (.cons (k := 32) rfl (.cons (k := 6) rfl (.cons (k := 5) rfl (.cons (k := 4) rfl (.cons (k := 2) rfl (.nil)))))))) (hm1.trans hm2) (fun w hw => by first | exact hw | exact hw.c) ?_ ?_
         ·refine ⟨⟨q_a, q_c, q_l⟩, rfl, by omega, ?_, k_q, rfl⟩
          show _ = _
          rw [foldM_step (by omega), ← hsl]
          unfold addM
          rw [hql]; rw [ofM_is ham, dif_pos (show isM a_marks_l b_marks_l[k].client = true from by have h9 := ‹(!isM a_marks_l b_marks_l[k].client) = false›; simpa using h9)]
          exact (if_pos (by assumption)).symm
         ·omega
        ·replace hc21 := dF hc21
         simp only [AnswerV.eta, MarkV.eta, CellV.eta, HeldV.eta, PeerV.eta] at hc21
         simp only [List.get_eq_getElem] at hc21
         refine C_skip ?_
         refine K_out ?_
         refine K_then ?_
         refine C_region (l := [0, 1]) rfl ?_
         refine X_ari rfl rfl rfl rfl rfl (by exact wrap_in (by decide) (by omega)) rfl ?_
         refine Y_move ?_
         refine XD_end ?_
         refine K_roundO (a' := [(34, _)]) (k + 1) ([(b6, rowO [.one (.int .u64 a_version), .one (.bool a_has), .one (.string a_val), .one (Sl.val (⟨s_a, s_c, s_l⟩ : Sl MarkV))] 37)]) (.cons (k := 34) rfl (.cons (k := 33) rfl (.cons (k := 32) rfl (.cons (k := 6) rfl (.cons (k := 5) rfl (.cons (k := 4) rfl (.cons (k := 2) rfl (.nil)))))))) hm1 (fun w hw => by first | exact hw | exact hw.c) ?_ ?_
         ·refine ⟨⟨s_a, s_c, s_l⟩, rfl, by omega, ?_, k_s, rfl⟩
          show _ = _
          rw [foldM_step (by omega), ← hsl]
          unfold addM
          rw [ofM_is ham, dif_pos (show isM a_marks_l b_marks_l[k].client = true from by have h9 := ‹(!isM a_marks_l b_marks_l[k].client) = false›; simpa using h9)]
          refine (if_neg (fun h9 => ?_)).symm
          exact absurd h9 (by assumption)
         ·omega
       ·replace hc20 := nF hc20
        simp only [AnswerV.eta, MarkV.eta, CellV.eta, HeldV.eta, PeerV.eta] at hc20
        simp only [List.get_eq_getElem] at hc20
        iterate 9 refine Y_skip ?_
        iterate 2 refine Y_pick ?_
        refine XD_end ?_
        refine K_then ?_
        refine C_false rfl ?_
        refine C_skip ?_
        refine K_out ?_
        refine K_then ?_
        refine C_region (l := [0, 1]) rfl ?_
        refine X_ari rfl rfl rfl rfl rfl (by exact wrap_in (by decide) (by omega)) rfl ?_
        refine Y_move ?_
        refine XD_end ?_
        refine K_roundO (a' := [(34, _)]) (k + 1) ([(b6, rowO [.one (.int .u64 a_version), .one (.bool a_has), .one (.string a_val), .one (Sl.val (⟨s_a, s_c, s_l⟩ : Sl MarkV))] 37)]) (.cons (k := 34) rfl (.cons (k := 33) rfl (.cons (k := 32) rfl (.cons (k := 6) rfl (.cons (k := 5) rfl (.cons (k := 4) rfl (.cons (k := 2) rfl (.nil)))))))) hm1 (fun w hw => by first | exact hw | exact hw.c) ?_ ?_
        ·refine ⟨⟨s_a, s_c, s_l⟩, rfl, by omega, ?_, k_s, rfl⟩
         show _ = _
         rw [foldM_step (by omega), ← hsl]
         unfold addM
         rw [ofM_is ham, dif_pos (show isM a_marks_l b_marks_l[k].client = true from by have h9 := ‹(!isM a_marks_l b_marks_l[k].client) = false›; simpa using h9)]
         refine (if_neg (fun h9 => ?_)).symm
         (have e9 : a_marks_l[atM a_marks_l b_marks_l[k].client] = b_marks_l[k] := (by assumption); rw [e9] at h9; omega)
        ·omega
     ·replace hc15 := dF hc15
      refine C_exit ?_
      iterate 2 refine K_exit ?_
      refine K_hit ?_
      refine K_then ?_
      refine Y_pk [6, 5, 4] ?_
      refine C_seq ?_
      refine C_region (l := [0, 1, 2]) rfl ?_
      refine Y_load F.lay37 ?_
      refine Y_store F.lay37 ?_
      refine Y_assign ?_
      refine XD_end ?_
      refine K_then ?_
      refine Y_pk [5, 4] ?_
      refine C_ret ?_
      refine K_end (.inr rfl) (.cell rfl (by repeat first | exact List.Mem.head _ | refine List.Mem.tail _ ?_ | refine List.mem_append_right _ ?_) F.lay37 rfl rfl (.tmp rfl .nil)) (fun w hw => ?_)
      obtain rfl : k = b_marks_l.length := by omega
      rw [List.take_length] at hsl
      refine ⟨_, M1, rfl, hmm, hw.c, ?_⟩
      rw [show mergeR (CellV.pl ⟨a_version, a_has, a_val, ⟨a_marks_a, a_marks_c, a_marks_l⟩⟩) (CellV.pl ⟨b_version, b_has, b_val, ⟨b_marks_a, b_marks_c, b_marks_l⟩⟩) = (mergeC _ _, 0) from if_pos ⟨ha, hb⟩]
      refine ⟨⟨a_version, a_has, a_val, ⟨s_a, s_c, s_l⟩⟩, rfl, ?_, ⟨k_s⟩⟩
      unfold mergeC
      rw [if_neg (by simp only [CellV.pl]; omega)]
      simp only [CellV.pl, hsl]
      rfl

end Go.Proofs.Ytbafnjniijodfaa
/-
  Two cells merged, as the document has it; the same cells.
-/
set_option linter.unusedSimpArgs false
set_option linter.unusedVariables false
set_option linter.unnecessarySimpa false
set_option maxRecDepth 8000
set_option maxHeartbeats 1000000
namespace Go.Proofs.Ytbafnjniijodfaa
open Go.Esp
theorem F.ok43 : okFn Try.prog 43 = true := by kernel_rfl
theorem F.ok64 : okFn Try.prog 64 = true := by kernel_rfl
theorem F.ok65 : okFn Try.prog 65 = true := by kernel_rfl

theorem rMerge_ok (M : Mem) (a : CellV) (b : CellV) (ha0 : CellV.ok M a) (hb1 : CellV.ok M b) : Esp.Fn Try.prog 45 [a.enc, b.enc] M (fun M' v => ∃ c : CellV, v = .tuple #[c.enc, .int .i64 (mergeR a.pl b.pl).2] ∧ c.pl = (mergeR a.pl b.pl).1 ∧ CellV.ok M' c) := by
  obtain ⟨a_version, a_has, a_val, ⟨a_marks_a, a_marks_c, a_marks_l⟩⟩ := a
  obtain ⟨b_version, b_has, b_val, ⟨b_marks_a, b_marks_c, b_marks_l⟩⟩ := b
  have k_a_marks : SlK M MarkV.segs 6 ⟨a_marks_a, a_marks_c, a_marks_l⟩ := ha0.h0
  have s_a_marks : SlM M a_marks_a (a_marks_l.map MarkV.segs) 6 := k_a_marks.h1
  have n_a_marks : (a_marks_l.map MarkV.segs).length = a_marks_l.length := List.length_map ..
  have m_a_marks : a_marks_l.length ≤ 9223372036854775807 := k_a_marks.h2
  have c_a_marks : a_marks_l.length ≤ a_marks_c := k_a_marks.h3
  have k_b_marks : SlK M MarkV.segs 6 ⟨b_marks_a, b_marks_c, b_marks_l⟩ := hb1.h0
  have s_b_marks : SlM M b_marks_a (b_marks_l.map MarkV.segs) 6 := k_b_marks.h1
  have n_b_marks : (b_marks_l.map MarkV.segs).length = b_marks_l.length := List.length_map ..
  have m_b_marks : b_marks_l.length ≤ 9223372036854775807 := k_b_marks.h2
  have c_b_marks : b_marks_l.length ≤ b_marks_c := k_b_marks.h3
  refine fn_enter Try.func45 rfl Try.ntmps45 rfl ?_; intro H
  refine C_seq ?_
  refine C_region (l := [0, 1, 2, 3]) rfl ?_
  refine Y_box ?_; intro b1
  refine Y_box ?_; intro b2
  refine Y_alloc F.zero37 ?_; intro b3
  refine Y_assign ?_
  refine XD_end ?_
  refine K_then ?_
  refine Y_pk [5, 4, 3, 2] ?_
  iterate 2 refine C_seq ?_
  refine C_region (l := [0, 1, 2, 3, 4, 5, 6, 7]) rfl ?_
  refine Y_load F.lay37 ?_
  refine X_fs rfl rfl F.ok43 rfl (rCelIs_ok _ ⟨_, _, _, ⟨_, _, _⟩⟩ (by assumption)) rfl ?_
  rintro _ rfl
  refine Y_not ?_
  refine Y_move ?_
  refine XD_part 13 rfl (fun hc4 => ?_) (fun hc4 => ?_)
  ·replace hc4 := nT hc4
   iterate 3 refine Y_skip ?_
   refine Y_pick ?_
   refine XD_end ?_
   refine K_then ?_
   refine Y_pk [17, 5, 4, 3, 2] ?_
   refine C_true rfl ?_
   refine C_seq ?_
   refine C_region (l := [0, 1, 2]) rfl ?_
   refine X_build rfl rfl F.bld37 (.nil) rfl rfl ?_
   refine Y_store F.lay37 ?_
   refine Y_assign ?_
   refine XD_end ?_
   refine K_then ?_
   refine Y_pk [5, 4, 3, 2] ?_
   refine C_ret ?_
   refine K_ret ?_
   refine K_end (.inr rfl) (.cell rfl (by repeat first | exact List.Mem.head _ | refine List.Mem.tail _ ?_ | refine List.mem_append_right _ ?_) F.lay37 rfl rfl (.tmp rfl .nil)) (fun w hw => ?_)
   refine ⟨_, M, rfl, Mem.le.refl M, hw.c, ?_⟩
   rw [show mergeR (CellV.pl ⟨a_version, a_has, a_val, ⟨a_marks_a, a_marks_c, a_marks_l⟩⟩) (CellV.pl ⟨b_version, b_has, b_val, ⟨b_marks_a, b_marks_c, b_marks_l⟩⟩) = (Cel.zero, 1) from if_neg (by rintro ⟨g1, g2⟩; contradiction)]
   exact ⟨CellV.zero, rfl, rfl, CellV.zero_ok M⟩
  ·replace hc4 := nF hc4
   refine Y_load F.lay37 ?_
   refine X_fs rfl rfl F.ok43 rfl (rCelIs_ok _ ⟨_, _, _, ⟨_, _, _⟩⟩ (by assumption)) rfl ?_
   rintro _ rfl
   refine Y_not ?_
   refine Y_pick ?_
   refine XD_end ?_
   refine K_then ?_
   refine Y_pk [17, 5, 4, 3, 2] ?_
   refine C_cond rfl (fun hc5 => ?_) (fun hc5 => ?_)
   ·replace hc5 := nT hc5
    refine C_seq ?_
    refine C_region (l := [0, 1, 2]) rfl ?_
    refine X_build rfl rfl F.bld37 (.nil) rfl rfl ?_
    refine Y_store F.lay37 ?_
    refine Y_assign ?_
    refine XD_end ?_
    refine K_then ?_
    refine Y_pk [5, 4, 3, 2] ?_
    refine C_ret ?_
    refine K_ret ?_
    refine K_end (.inr rfl) (.cell rfl (by repeat first | exact List.Mem.head _ | refine List.Mem.tail _ ?_ | refine List.mem_append_right _ ?_) F.lay37 rfl rfl (.tmp rfl .nil)) (fun w hw => ?_)
    refine ⟨_, M, rfl, Mem.le.refl M, hw.c, ?_⟩
    rw [show mergeR (CellV.pl ⟨a_version, a_has, a_val, ⟨a_marks_a, a_marks_c, a_marks_l⟩⟩) (CellV.pl ⟨b_version, b_has, b_val, ⟨b_marks_a, b_marks_c, b_marks_l⟩⟩) = (Cel.zero, 1) from if_neg (by rintro ⟨g1, g2⟩; contradiction)]
    exact ⟨CellV.zero, rfl, rfl, CellV.zero_ok M⟩
   ·replace hc5 := nF hc5
    refine C_skip ?_
    refine K_then ?_
    refine Y_pk [5, 4, 3, 2] ?_
    refine C_seq ?_
    have ha : IsCel (CellV.pl ⟨a_version, a_has, a_val, ⟨a_marks_a, a_marks_c, a_marks_l⟩⟩) := by assumption
    have hb : IsCel (CellV.pl ⟨b_version, b_has, b_val, ⟨b_marks_a, b_marks_c, b_marks_l⟩⟩) := by assumption
    have ham : MarksOk a_marks_l := ha.2
    have hbm : MarksOk b_marks_l := hb.2
    have hal := marks_len ham
    have hbl := marks_len hbm
    refine C_region (l := [0, 1, 2, 3, 4, 5, 6, 7, 8]) rfl ?_
    refine Y_fieldAddr F.foff37_0 ?_
    refine Y_load F.lay34 ?_
    refine Y_fieldAddr F.foff37_1 ?_
    refine Y_load F.lay4 ?_
    refine Y_fieldAddr F.foff37_2 ?_
    refine Y_load F.lay9 ?_
    refine X_build rfl rfl F.bld37 (.cons rfl (by constructor) (.cons rfl (by constructor) (.cons rfl (by constructor) .nil))) rfl rfl ?_
    refine Y_alloc F.zero37 ?_; intro b6
    refine Y_store F.lay37 ?_
    refine XD_end ?_
    refine K_then ?_
    refine Y_pk [6, 5, 4, 3, 2] ?_
    iterate 2 refine C_seq ?_
    refine C_region (l := [0, 1, 2, 3, 4]) rfl ?_
    refine Y_fieldAddr F.foff37_0 ?_
    refine Y_load F.lay34 ?_
    refine Y_fieldAddr F.foff37_0 ?_
    refine Y_load F.lay34 ?_
    refine Y_cmp ?_
    refine XD_end ?_
    refine K_then ?_
    refine Y_pk [30, 6, 5, 4, 3, 2] ?_
    refine C_cond rfl (fun hc7 => ?_) (fun hc7 => ?_)
    ·replace hc7 := dT hc7
     refine C_region (l := [0, 1, 2, 3, 4, 5, 6, 7]) rfl ?_
     refine Y_fieldAddr F.foff37_0 ?_
     refine Y_load F.lay34 ?_
     refine Y_fieldAddr F.foff37_1 ?_
     refine Y_load F.lay4 ?_
     refine Y_fieldAddr F.foff37_2 ?_
     refine Y_load F.lay9 ?_
     refine X_build rfl rfl F.bld37 (.cons rfl (by constructor) (.cons rfl (by constructor) (.cons rfl (by constructor) .nil))) rfl rfl ?_
     refine Y_store F.lay37 ?_
     refine XD_end ?_
     refine K_then ?_
     refine Y_pk [6, 5, 4, 3, 2] ?_
     refine C_seq ?_
     refine C_region (l := [0, 1, 2, 3, 4, 5, 6]) rfl ?_
     refine Y_fieldAddr F.foff37_3 ?_
     refine Y_load F.lay35 ?_
     refine Y_fieldAddr F.foff37_3 ?_
     refine Y_load F.lay35 ?_
     refine X_appendK (m := 1000000) rfl rfl rfl rfl rfl F.elem35 F.zero70 (by rfl) rfl (by exact OSl.nil) (by repeat first | exact Rem.here _ | exact Rem.two | apply Rem.skip | apply Rem.over) (s_a_marks) MarkV.flat (by (simp; omega)) (by decide) rfl ?_; intro v10 hs9 ho8; obtain ⟨adv10, cpv10, rfl⟩ := ho8.val
     refine Y_fieldAddr F.foff37_3 ?_
     refine Y_store F.lay35 ?_
     refine XD_end ?_
     refine K_then ?_
     refine Y_pk [6, 5, 4, 3, 2] ?_
     iterate 2 refine C_seq ?_
     have hml : (([] : List Segs) ++ a_marks_l.map MarkV.segs).length = a_marks_l.length := by simp
     rw [hml]
     have ho0 : OSl 70 6 (.slice adv10 a_marks_l.length cpv10) hs9 (a_marks_l.map MarkV.segs) := by have h9 := ho8; rw [hml] at h9; exact h9
     refine C_frz ho0 (by repeat first | exact Rem.here _ | exact Rem.two | apply Rem.skip | apply Rem.over) (fun M0 hm0 k_s0 => ?_)
     have hs0l : a_marks_l = (b_marks_l.take 0).foldl (addM a_marks_l) a_marks_l := rfl
     obtain ⟨s0, hs0⟩ : ∃ s0 : Sl MarkV, s0 = ⟨adv10, cpv10, a_marks_l⟩ := ⟨_, rfl⟩
     have e0 : Value.slice adv10 a_marks_l.length cpv10 = s0.val := by rw [hs0]; rfl
     rw [e0]
     rw [← hs0] at k_s0
     replace hs0l : s0.l = (b_marks_l.take 0).foldl (addM a_marks_l) a_marks_l := by rw [hs0]; exact hs0l
     have s_b0 := s_b_marks.mono hm0
     refine C_region (l := [0]) rfl ?_
     refine Y_assign ?_
     refine XD_end ?_
     refine K_then ?_
     refine C_block ?_
     refine Y_pk [7, 6, 5, 4, 3, 2] ?_
     refine C_loopO (Hin := [(b6, rowO [.one (.int .u64 b_version), .one (.bool b_has), .one (.string b_val), .one (Sl.val s0)] 37)]) (.succ .zero) (by repeat first | exact Rem.here _ | exact Rem.two | apply Rem.skip | apply Rem.over) (fun (k : Nat) M1 h1 z => ∃ s : Sl MarkV, z = [(7, .int .i64 (k : Int))] ∧ k ≤ b_marks_l.length ∧ s.l = (b_marks_l.take k).foldl (addM a_marks_l) a_marks_l ∧ SlK M1 MarkV.segs 6 s ∧ h1 = [(b6, rowO [.one (.int .u64 b_version), .one (.bool b_has), .one (.string b_val), .one (Sl.val s)] 37)]) (fun k => b_marks_l.length - k) (0) (⟨s0, rfl, by omega, hs0l, k_s0, rfl⟩) ?_
     rintro k M1 h1 z hm1 ⟨⟨s_a, s_c, s_l⟩, rfl, hk, hsl, k_s, rfl⟩
     simp only at hsl
     have hmm := hm0.trans hm1
     have s_b1 := s_b_marks.mono hmm
     have s_a1 := s_a_marks.mono hmm
     have hsok : MarksOk s_l := by rw [hsl]; exact foldM_ok ham (fun m hm => hbm.1 m (List.mem_of_mem_take hm))
     iterate 2 refine C_seq ?_
     refine C_region (l := [0, 1, 2, 3, 4]) rfl ?_
     refine Y_move ?_
     refine Y_fieldAddr F.foff37_3 ?_
     refine Y_load F.lay35 ?_
     refine Y_len_sl F.elem35 ?_
     refine Y_cmp ?_
     refine XD_end ?_
     refine K_then ?_
     refine C_cond rfl (fun hc11 => ?_) (fun hc11 => ?_)
     ·replace hc11 := dT hc11
      refine C_skip ?_
      refine K_then ?_
      refine C_seq ?_
      refine C_block ?_
      refine C_seq ?_
      have hmk : MarkOk b_marks_l[k] := hbm.1 _ (List.getElem_mem (by omega))
      have hmc := hmk.1
      refine C_region_any (l := [0, 1, 2, 3, 4, 5, 6, 7, 8, 9, 10, 11, 12, 13, 14]) #[0, 1, 0, 4, 0, 28, 60, 124, 255, 511, 1023, 1023, 0, 6143, 16383] _ rfl (by kernel_rfl) (by kernel_rfl) St.drawn (fun _ h => h) ?_
      refine Y_fieldAddr F.foff37_3 ?_
      refine Y_load F.lay35 ?_
      refine Y_fieldAddr F.foff37_3 ?_
      refine Y_load F.lay35 ?_
      refine Y_move ?_
      refine X_indexAddr rfl rfl rfl rfl F.elem35 (by rfl) (by omega) (by exact SlM.plain (by assumption) (by (simp; omega))) rfl ?_
      refine X_fieldAddr_el rfl rfl rfl (by exact SlM.plain (by assumption) (by (simp; omega))) F.foff70_0 rfl ?_
      refine X_load_el rfl rfl rfl (by assumption) (by exact row_map (by omega)) F.lay3 rfl rfl rfl ?_
      refine X_fs rfl rfl F.ok64 rfl (of_ok _ ⟨a_marks_a, a_marks_c, a_marks_l⟩ b_marks_l[k].client (k_a_marks.mono hmm)) rfl ?_
      rintro _ hv
      replace hv : _ = ofXv (ofX a_marks_l b_marks_l[k].client) := hv
      obtain ⟨⟨xm, xb⟩, hx⟩ : ∃ r, ofX a_marks_l b_marks_l[k].client = r := ⟨_, rfl⟩
      rw [hx] at hv
      subst hv
      refine Y_move ?_
      iterate 2 refine Y_extract ?_
      refine Y_alloc F.zero70 ?_; intro b12
      refine Y_store F.lay70 ?_
      refine Y_assign ?_
      refine XD_end ?_
      refine K_then ?_
      refine C_seq ?_
      refine C_region_any (l := [0, 1, 2, 3, 4, 5, 6, 7, 8, 9, 10, 11, 12]) #[0, 1, 3, 7, 15, 7, 39, 7, 231, 487, 999, 2047, 4095] _ rfl (by kernel_rfl) (by kernel_rfl) St.drawn (fun _ h => h) ?_
      refine Y_move ?_
      refine Y_not ?_
      refine Y_move ?_
      refine XD_part 65 rfl (fun hc13 => ?_) (fun hc13 => ?_)
      ·skip
       simp only [AnswerV.eta, MarkV.eta, CellV.eta, HeldV.eta, PeerV.eta] at hc13
       iterate 9 refine Y_skip ?_
       refine Y_pick ?_
       refine XD_end ?_
       refine K_then ?_
       refine C_true rfl ?_
       refine C_region_any (l := [0, 1, 2, 3, 4, 5, 6, 7, 8, 9]) #[0, 1, 0, 4, 0, 28, 60, 127, 255, 511] _ rfl (by kernel_rfl) (by kernel_rfl) St.drawn (fun _ h => h) ?_
       refine Y_fieldAddr F.foff37_3 ?_
       refine Y_load F.lay35 ?_
       refine Y_fieldAddr F.foff37_3 ?_
       refine Y_load F.lay35 ?_
       refine Y_move ?_
       refine X_indexAddr rfl rfl rfl rfl F.elem35 (by rfl) (by omega) (by exact SlM.plain (by assumption) (by (simp; omega))) rfl ?_
       refine X_load_el rfl rfl rfl (by assumption) (by exact row_map (by omega)) F.lay70 rfl rfl rfl ?_
       refine X_fn rfl rfl F.ok65 rfl (mark_ok _ ⟨s_a, s_c, s_l⟩ b_marks_l[k] k_s hsok hmk) rfl ?_
       rintro _ M2 hm2 ⟨⟨q_a, q_c, q_l⟩, rfl, hql, k_q⟩
       simp only at hql
       refine Y_fieldAddr F.foff37_3 ?_
       refine Y_store F.lay35 ?_
       refine XD_end ?_
       refine K_out ?_
       refine K_then ?_
       refine C_region (l := [0, 1, 2]) rfl ?_
       refine Y_move ?_
       refine X_ari rfl rfl rfl rfl rfl (by exact wrap_in (by decide) (by omega)) rfl ?_
       refine Y_assign ?_
       refine XD_end ?_
       refine K_roundO (a' := [(7, _)]) (k + 1) ([(b6, rowO [.one (.int .u64 b_version), .one (.bool b_has), .one (.string b_val), .one (Value.slice q_a q_l.length q_c)] 37)]) (.cons (k := 7) rfl (.cons (k := 6) rfl (.cons (k := 5) rfl (.cons (k := 4) rfl (.cons (k := 3) rfl (.cons (k := 2) rfl (.nil))))))) (hm1.trans hm2) (fun w hw => by first | exact hw | exact hw.c) ?_ ?_
       ·refine ⟨⟨q_a, q_c, q_l⟩, rfl, by omega, ?_, k_q, rfl⟩
        show _ = _
        rw [foldM_step (by omega), ← hsl]
        unfold addM
        rw [hql]; rw [(ofX_none (by rw [hx, show xb = false from by have h9 := ‹(!xb) = true›; simpa using h9]))]
       ·omega
      ·skip
       simp only [AnswerV.eta, MarkV.eta, CellV.eta, HeldV.eta, PeerV.eta] at hc13
       refine Y_fieldAddr F.foff70_1 ?_
       refine Y_load F.lay34 ?_
       refine Y_fieldAddr F.foff37_3 ?_
       refine Y_load F.lay35 ?_
       refine Y_move ?_
       refine X_indexAddr rfl rfl rfl rfl F.elem35 (by rfl) (by omega) (by exact SlM.plain (by assumption) (by (simp; omega))) rfl ?_
       refine X_fieldAddr_el rfl rfl rfl (by exact SlM.plain (by assumption) (by (simp; omega))) F.foff70_1 rfl ?_
       refine X_load_el rfl rfl rfl (by assumption) (by exact row_map (by omega)) F.lay34 rfl rfl rfl ?_
       refine Y_cmp ?_
       refine Y_pick ?_
       refine XD_end ?_
       refine K_then ?_
       refine C_cond rfl (fun hc14 => ?_) (fun hc14 => ?_)
       ·replace hc14 := dT hc14
        simp only [List.get_eq_getElem] at hc14
        refine C_region_any (l := [0, 1, 2, 3, 4, 5, 6, 7, 8, 9]) #[0, 1, 0, 4, 0, 28, 60, 127, 255, 511] _ rfl (by kernel_rfl) (by kernel_rfl) St.drawn (fun _ h => h) ?_
        refine Y_fieldAddr F.foff37_3 ?_
        refine Y_load F.lay35 ?_
        refine Y_fieldAddr F.foff37_3 ?_
        refine Y_load F.lay35 ?_
        refine Y_move ?_
        refine X_indexAddr rfl rfl rfl rfl F.elem35 (by rfl) (by omega) (by exact SlM.plain (by assumption) (by (simp; omega))) rfl ?_
        refine X_load_el rfl rfl rfl (by assumption) (by exact row_map (by omega)) F.lay70 rfl rfl rfl ?_
        refine X_fn rfl rfl F.ok65 rfl (mark_ok _ ⟨s_a, s_c, s_l⟩ b_marks_l[k] k_s hsok hmk) rfl ?_
        rintro _ M2 hm2 ⟨⟨q_a, q_c, q_l⟩, rfl, hql, k_q⟩
        simp only at hql
        refine Y_fieldAddr F.foff37_3 ?_
        refine Y_store F.lay35 ?_
        refine XD_end ?_
        refine K_out ?_
        refine K_then ?_
        refine C_region (l := [0, 1, 2]) rfl ?_
        refine Y_move ?_
        refine X_ari rfl rfl rfl rfl rfl (by exact wrap_in (by decide) (by omega)) rfl ?_
        refine Y_assign ?_
        refine XD_end ?_
        refine K_roundO (a' := [(7, _)]) (k + 1) ([(b6, rowO [.one (.int .u64 b_version), .one (.bool b_has), .one (.string b_val), .one (Value.slice q_a q_l.length q_c)] 37)]) (.cons (k := 7) rfl (.cons (k := 6) rfl (.cons (k := 5) rfl (.cons (k := 4) rfl (.cons (k := 3) rfl (.cons (k := 2) rfl (.nil))))))) (hm1.trans hm2) (fun w hw => by first | exact hw | exact hw.c) ?_ ?_
        ·refine ⟨⟨q_a, q_c, q_l⟩, rfl, by omega, ?_, k_q, rfl⟩
         show _ = _
         rw [foldM_step (by omega), ← hsl]
         unfold addM
         rw [hql]; rw [(ofX_some (by rw [hx, show xb = true from by have h9 := ‹(!xb) = false›; simpa using h9]))]
         exact (if_pos (by assumption)).symm
        ·omega
       ·replace hc14 := dF hc14
        simp only [List.get_eq_getElem] at hc14
        refine C_skip ?_
        refine K_out ?_
        refine K_then ?_
        refine C_region (l := [0, 1, 2]) rfl ?_
        refine Y_move ?_
        refine X_ari rfl rfl rfl rfl rfl (by exact wrap_in (by decide) (by omega)) rfl ?_
        refine Y_assign ?_
        refine XD_end ?_
        refine K_roundO (a' := [(7, _)]) (k + 1) ([(b6, rowO [.one (.int .u64 b_version), .one (.bool b_has), .one (.string b_val), .one (Sl.val (⟨s_a, s_c, s_l⟩ : Sl MarkV))] 37)]) (.cons (k := 7) rfl (.cons (k := 6) rfl (.cons (k := 5) rfl (.cons (k := 4) rfl (.cons (k := 3) rfl (.cons (k := 2) rfl (.nil))))))) hm1 (fun w hw => by first | exact hw | exact hw.c) ?_ ?_
        ·refine ⟨⟨s_a, s_c, s_l⟩, rfl, by omega, ?_, k_s, rfl⟩
         show _ = _
         rw [foldM_step (by omega), ← hsl]
         unfold addM
         rw [(ofX_some (by rw [hx, show xb = true from by have h9 := ‹(!xb) = false›; simpa using h9]))]
         exact (if_neg (by assumption)).symm
        ·omega
     ·replace hc11 := dF hc11
      refine C_exit ?_
      iterate 2 refine K_exit ?_
      refine K_hit ?_
      refine K_then ?_
      refine Y_pk [6, 5, 4] ?_
      refine C_seq ?_
      refine C_region (l := [0, 1, 2]) rfl ?_
      refine Y_load F.lay37 ?_
      refine Y_store F.lay37 ?_
      refine Y_assign ?_
      refine XD_end ?_
      refine K_then ?_
      refine Y_pk [5, 4] ?_
      refine C_ret ?_
      refine K_end (.inr rfl) (.cell rfl (by repeat first | exact List.Mem.head _ | refine List.Mem.tail _ ?_ | refine List.mem_append_right _ ?_) F.lay37 rfl rfl (.tmp rfl .nil)) (fun w hw => ?_)
      obtain rfl : k = b_marks_l.length := by omega
      rw [List.take_length] at hsl
      refine ⟨_, M1, rfl, hmm, hw.c, ?_⟩
      rw [show mergeR (CellV.pl ⟨a_version, a_has, a_val, ⟨a_marks_a, a_marks_c, a_marks_l⟩⟩) (CellV.pl ⟨b_version, b_has, b_val, ⟨b_marks_a, b_marks_c, b_marks_l⟩⟩) = (mergeC _ _, 0) from if_pos ⟨ha, hb⟩]
      refine ⟨⟨b_version, b_has, b_val, ⟨s_a, s_c, s_l⟩⟩, rfl, ?_, ⟨k_s⟩⟩
      unfold mergeC
      rw [if_pos (by simp only [CellV.pl]; omega)]
      simp only [CellV.pl, hsl]
      rfl
    ·replace hc7 := dF hc7
     refine C_skip ?_
     refine K_then ?_
     refine Y_pk [6, 5, 4, 3, 2] ?_
     refine C_seq ?_
     refine C_region (l := [0, 1, 2, 3, 4, 5, 6]) rfl ?_
     refine Y_fieldAddr F.foff37_3 ?_
     refine Y_load F.lay35 ?_
     refine Y_fieldAddr F.foff37_3 ?_
     refine Y_load F.lay35 ?_
     refine X_appendK (m := 1000000) rfl rfl rfl rfl rfl F.elem35 F.zero70 (by rfl) rfl (by exact OSl.nil) (by repeat first | exact Rem.here _ | exact Rem.two | apply Rem.skip | apply Rem.over) (s_a_marks) MarkV.flat (by (simp; omega)) (by decide) rfl ?_; intro v17 hs16 ho15; obtain ⟨adv17, cpv17, rfl⟩ := ho15.val
     refine Y_fieldAddr F.foff37_3 ?_
     refine Y_store F.lay35 ?_
     refine XD_end ?_
     refine K_then ?_
     refine Y_pk [6, 5, 4, 3, 2] ?_
     iterate 2 refine C_seq ?_
     have hml : (([] : List Segs) ++ a_marks_l.map MarkV.segs).length = a_marks_l.length := by simp
     rw [hml]
     have ho0 : OSl 70 6 (.slice adv17 a_marks_l.length cpv17) hs16 (a_marks_l.map MarkV.segs) := by have h9 := ho15; rw [hml] at h9; exact h9
     refine C_frz ho0 (by repeat first | exact Rem.here _ | exact Rem.two | apply Rem.skip | apply Rem.over) (fun M0 hm0 k_s0 => ?_)
     have hs0l : a_marks_l = (b_marks_l.take 0).foldl (addM a_marks_l) a_marks_l := rfl
     obtain ⟨s0, hs0⟩ : ∃ s0 : Sl MarkV, s0 = ⟨adv17, cpv17, a_marks_l⟩ := ⟨_, rfl⟩
     have e0 : Value.slice adv17 a_marks_l.length cpv17 = s0.val := by rw [hs0]; rfl
     rw [e0]
     rw [← hs0] at k_s0
     replace hs0l : s0.l = (b_marks_l.take 0).foldl (addM a_marks_l) a_marks_l := by rw [hs0]; exact hs0l
     have s_b0 := s_b_marks.mono hm0
     refine C_region (l := [0]) rfl ?_
     refine Y_assign ?_
     refine XD_end ?_
     refine K_then ?_
     refine C_block ?_
     refine Y_pk [7, 6, 5, 4, 3, 2] ?_
     refine C_loopO (Hin := [(b6, rowO [.one (.int .u64 a_version), .one (.bool a_has), .one (.string a_val), .one (Sl.val s0)] 37)]) (.succ .zero) (by repeat first | exact Rem.here _ | exact Rem.two | apply Rem.skip | apply Rem.over) (fun (k : Nat) M1 h1 z => ∃ s : Sl MarkV, z = [(7, .int .i64 (k : Int))] ∧ k ≤ b_marks_l.length ∧ s.l = (b_marks_l.take k).foldl (addM a_marks_l) a_marks_l ∧ SlK M1 MarkV.segs 6 s ∧ h1 = [(b6, rowO [.one (.int .u64 a_version), .one (.bool a_has), .one (.string a_val), .one (Sl.val s)] 37)]) (fun k => b_marks_l.length - k) (0) (⟨s0, rfl, by omega, hs0l, k_s0, rfl⟩) ?_
     rintro k M1 h1 z hm1 ⟨⟨s_a, s_c, s_l⟩, rfl, hk, hsl, k_s, rfl⟩
     simp only at hsl
     have hmm := hm0.trans hm1
     have s_b1 := s_b_marks.mono hmm
     have s_a1 := s_a_marks.mono hmm
     have hsok : MarksOk s_l := by rw [hsl]; exact foldM_ok ham (fun m hm => hbm.1 m (List.mem_of_mem_take hm))
     iterate 2 refine C_seq ?_
     refine C_region (l := [0, 1, 2, 3, 4]) rfl ?_
     refine Y_move ?_
     refine Y_fieldAddr F.foff37_3 ?_
     refine Y_load F.lay35 ?_
     refine Y_len_sl F.elem35 ?_
     refine Y_cmp ?_
     refine XD_end ?_
     refine K_then ?_
     refine C_cond rfl (fun hc18 => ?_) (fun hc18 => ?_)
     ·replace hc18 := dT hc18
      refine C_skip ?_
      refine K_then ?_
      refine C_seq ?_
      refine C_block ?_
      refine C_seq ?_
      have hmk : MarkOk b_marks_l[k] := hbm.1 _ (List.getElem_mem (by omega))
      have hmc := hmk.1
      refine C_region_any (l := [0, 1, 2, 3, 4, 5, 6, 7, 8, 9, 10, 11, 12, 13, 14]) #[0, 1, 0, 4, 0, 28, 60, 124, 255, 511, 1023, 1023, 0, 6143, 16383] _ rfl (by kernel_rfl) (by kernel_rfl) St.drawn (fun _ h => h) ?_
      refine Y_fieldAddr F.foff37_3 ?_
      refine Y_load F.lay35 ?_
      refine Y_fieldAddr F.foff37_3 ?_
      refine Y_load F.lay35 ?_
      refine Y_move ?_
      refine X_indexAddr rfl rfl rfl rfl F.elem35 (by rfl) (by omega) (by exact SlM.plain (by assumption) (by (simp; omega))) rfl ?_
      refine X_fieldAddr_el rfl rfl rfl (by exact SlM.plain (by assumption) (by (simp; omega))) F.foff70_0 rfl ?_
      refine X_load_el rfl rfl rfl (by assumption) (by exact row_map (by omega)) F.lay3 rfl rfl rfl ?_
      refine X_fs rfl rfl F.ok64 rfl (of_ok _ ⟨a_marks_a, a_marks_c, a_marks_l⟩ b_marks_l[k].client (k_a_marks.mono hmm)) rfl ?_
      rintro _ hv
      replace hv : _ = ofXv (ofX a_marks_l b_marks_l[k].client) := hv
      obtain ⟨⟨xm, xb⟩, hx⟩ : ∃ r, ofX a_marks_l b_marks_l[k].client = r := ⟨_, rfl⟩
      rw [hx] at hv
      subst hv
      refine Y_move ?_
      iterate 2 refine Y_extract ?_
      refine Y_alloc F.zero70 ?_; intro b19
      refine Y_store F.lay70 ?_
      refine Y_assign ?_
      refine XD_end ?_
      refine K_then ?_
      refine C_seq ?_
      refine C_region_any (l := [0, 1, 2, 3, 4, 5, 6, 7, 8, 9, 10, 11, 12]) #[0, 1, 3, 7, 15, 7, 39, 7, 231, 487, 999, 2047, 4095] _ rfl (by kernel_rfl) (by kernel_rfl) St.drawn (fun _ h => h) ?_
      refine Y_move ?_
      refine Y_not ?_
      refine Y_move ?_
      refine XD_part 65 rfl (fun hc20 => ?_) (fun hc20 => ?_)
      ·skip
       simp only [AnswerV.eta, MarkV.eta, CellV.eta, HeldV.eta, PeerV.eta] at hc20
       iterate 9 refine Y_skip ?_
       refine Y_pick ?_
       refine XD_end ?_
       refine K_then ?_
       refine C_true rfl ?_
       refine C_region_any (l := [0, 1, 2, 3, 4, 5, 6, 7, 8, 9]) #[0, 1, 0, 4, 0, 28, 60, 127, 255, 511] _ rfl (by kernel_rfl) (by kernel_rfl) St.drawn (fun _ h => h) ?_
       refine Y_fieldAddr F.foff37_3 ?_
       refine Y_load F.lay35 ?_
       refine Y_fieldAddr F.foff37_3 ?_
       refine Y_load F.lay35 ?_
       refine Y_move ?_
       refine X_indexAddr rfl rfl rfl rfl F.elem35 (by rfl) (by omega) (by exact SlM.plain (by assumption) (by (simp; omega))) rfl ?_
       refine X_load_el rfl rfl rfl (by assumption) (by exact row_map (by omega)) F.lay70 rfl rfl rfl ?_
       refine X_fn rfl rfl F.ok65 rfl (mark_ok _ ⟨s_a, s_c, s_l⟩ b_marks_l[k] k_s hsok hmk) rfl ?_
       rintro _ M2 hm2 ⟨⟨q_a, q_c, q_l⟩, rfl, hql, k_q⟩
       simp only at hql
       refine Y_fieldAddr F.foff37_3 ?_
       refine Y_store F.lay35 ?_
       refine XD_end ?_
       refine K_out ?_
       refine K_then ?_
       refine C_region (l := [0, 1, 2]) rfl ?_
       refine Y_move ?_
       refine X_ari rfl rfl rfl rfl rfl (by exact wrap_in (by decide) (by omega)) rfl ?_
       refine Y_assign ?_
       refine XD_end ?_
       refine K_roundO (a' := [(7, _)]) (k + 1) ([(b6, rowO [.one (.int .u64 a_version), .one (.bool a_has), .one (.string a_val), .one (Value.slice q_a q_l.length q_c)] 37)]) (.cons (k := 7) rfl (.cons (k := 6) rfl (.cons (k := 5) rfl (.cons (k := 4) rfl (.cons (k := 3) rfl (.cons (k := 2) rfl (.nil))))))) (hm1.trans hm2) (fun w hw => by first | exact hw | exact hw.c) ?_ ?_
       ·refine ⟨⟨q_a, q_c, q_l⟩, rfl, by omega, ?_, k_q, rfl⟩
        show _ = _
        rw [foldM_step (by omega), ← hsl]
        unfold addM
        rw [hql]; rw [(ofX_none (by rw [hx, show xb = false from by have h9 := ‹(!xb) = true›; simpa using h9]))]
       ·omega
      ·skip
       simp only [AnswerV.eta, MarkV.eta, CellV.eta, HeldV.eta, PeerV.eta] at hc20
       refine Y_fieldAddr F.foff70_1 ?_
       refine Y_load F.lay34 ?_
       refine Y_fieldAddr F.foff37_3 ?_
       refine Y_load F.lay35 ?_
       refine Y_move ?_
       refine X_indexAddr rfl rfl rfl rfl F.elem35 (by rfl) (by omega) (by exact SlM.plain (by assumption) (by (simp; omega))) rfl ?_
       refine X_fieldAddr_el rfl rfl rfl (by exact SlM.plain (by assumption) (by (simp; omega))) F.foff70_1 rfl ?_
       refine X_load_el rfl rfl rfl (by assumption) (by exact row_map (by omega)) F.lay34 rfl rfl rfl ?_
       refine Y_cmp ?_
       refine Y_pick ?_
       refine XD_end ?_
       refine K_then ?_
       refine C_cond rfl (fun hc21 => ?_) (fun hc21 => ?_)
       ·replace hc21 := dT hc21
        simp only [List.get_eq_getElem] at hc21
        refine C_region_any (l := [0, 1, 2, 3, 4, 5, 6, 7, 8, 9]) #[0, 1, 0, 4, 0, 28, 60, 127, 255, 511] _ rfl (by kernel_rfl) (by kernel_rfl) St.drawn (fun _ h => h) ?_
        refine Y_fieldAddr F.foff37_3 ?_
        refine Y_load F.lay35 ?_
        refine Y_fieldAddr F.foff37_3 ?_
        refine Y_load F.lay35 ?_
        refine Y_move ?_
        refine X_indexAddr rfl rfl rfl rfl F.elem35 (by rfl) (by omega) (by exact SlM.plain (by assumption) (by (simp; omega))) rfl ?_
        refine X_load_el rfl rfl rfl (by assumption) (by exact row_map (by omega)) F.lay70 rfl rfl rfl ?_
        refine X_fn rfl rfl F.ok65 rfl (mark_ok _ ⟨s_a, s_c, s_l⟩ b_marks_l[k] k_s hsok hmk) rfl ?_
        rintro _ M2 hm2 ⟨⟨q_a, q_c, q_l⟩, rfl, hql, k_q⟩
        simp only at hql
        refine Y_fieldAddr F.foff37_3 ?_
        refine Y_store F.lay35 ?_
        refine XD_end ?_
        refine K_out ?_
        refine K_then ?_
        refine C_region (l := [0, 1, 2]) rfl ?_
        refine Y_move ?_
        refine X_ari rfl rfl rfl rfl rfl (by exact wrap_in (by decide) (by omega)) rfl ?_
        refine Y_assign ?_
        refine XD_end ?_
        refine K_roundO (a' := [(7, _)]) (k + 1) ([(b6, rowO [.one (.int .u64 a_version), .one (.bool a_has), .one (.string a_val), .one (Value.slice q_a q_l.length q_c)] 37)]) (.cons (k := 7) rfl (.cons (k := 6) rfl (.cons (k := 5) rfl (.cons (k := 4) rfl (.cons (k := 3) rfl (.cons (k := 2) rfl (.nil))))))) (hm1.trans hm2) (fun w hw => by first | exact hw | exact hw.c) ?_ ?_
        ·refine ⟨⟨q_a, q_c, q_l⟩, rfl, by omega, ?_, k_q, rfl⟩
         show _ = _
         rw [foldM_step (by omega), ← hsl]
         unfold addM
         rw [hql]; rw [(ofX_some (by rw [hx, show xb = true from by have h9 := ‹(!xb) = false›; simpa using h9]))]
         exact (if_pos (by assumption)).symm
        ·omega
       ·replace hc21 := dF hc21
        simp only [List.get_eq_getElem] at hc21
        refine C_skip ?_
        refine K_out ?_
        refine K_then ?_
        refine C_region (l := [0, 1, 2]) rfl ?_
        refine Y_move ?_
        refine X_ari rfl rfl rfl rfl rfl (by exact wrap_in (by decide) (by omega)) rfl ?_
        refine Y_assign ?_
        refine XD_end ?_
        refine K_roundO (a' := [(7, _)]) (k + 1) ([(b6, rowO [.one (.int .u64 a_version), .one (.bool a_has), .one (.string a_val), .one (Sl.val (⟨s_a, s_c, s_l⟩ : Sl MarkV))] 37)]) (.cons (k := 7) rfl (.cons (k := 6) rfl (.cons (k := 5) rfl (.cons (k := 4) rfl (.cons (k := 3) rfl (.cons (k := 2) rfl (.nil))))))) hm1 (fun w hw => by first | exact hw | exact hw.c) ?_ ?_
        ·refine ⟨⟨s_a, s_c, s_l⟩, rfl, by omega, ?_, k_s, rfl⟩
         show _ = _
         rw [foldM_step (by omega), ← hsl]
         unfold addM
         rw [(ofX_some (by rw [hx, show xb = true from by have h9 := ‹(!xb) = false›; simpa using h9]))]
         exact (if_neg (by assumption)).symm
        ·omega
     ·replace hc18 := dF hc18
      refine C_exit ?_
      iterate 2 refine K_exit ?_
      refine K_hit ?_
      refine K_then ?_
      refine Y_pk [6, 5, 4] ?_
      refine C_seq ?_
      refine C_region (l := [0, 1, 2]) rfl ?_
      refine Y_load F.lay37 ?_
      refine Y_store F.lay37 ?_
      refine Y_assign ?_
      refine XD_end ?_
      refine K_then ?_
      refine Y_pk [5, 4] ?_
      refine C_ret ?_
      refine K_end (.inr rfl) (.cell rfl (by repeat first | exact List.Mem.head _ | refine List.Mem.tail _ ?_ | refine List.mem_append_right _ ?_) F.lay37 rfl rfl (.tmp rfl .nil)) (fun w hw => ?_)
      obtain rfl : k = b_marks_l.length := by omega
      rw [List.take_length] at hsl
      refine ⟨_, M1, rfl, hmm, hw.c, ?_⟩
      rw [show mergeR (CellV.pl ⟨a_version, a_has, a_val, ⟨a_marks_a, a_marks_c, a_marks_l⟩⟩) (CellV.pl ⟨b_version, b_has, b_val, ⟨b_marks_a, b_marks_c, b_marks_l⟩⟩) = (mergeC _ _, 0) from if_pos ⟨ha, hb⟩]
      refine ⟨⟨a_version, a_has, a_val, ⟨s_a, s_c, s_l⟩⟩, rfl, ?_, ⟨k_s⟩⟩
      unfold mergeC
      rw [if_neg (by simp only [CellV.pl]; omega)]
      simp only [CellV.pl, hsl]
      rfl

theorem SameC_ok (M : Mem) (a : CellV) (b : CellV) (ha0 : CellV.ok M a) (hb1 : CellV.ok M b) : Fs Try.prog 25 [a.enc, b.enc] M (fun v => v = Value.bool (decide (a.pl = b.pl))) := by
  obtain ⟨a_version, a_has, a_val, ⟨a_marks_a, a_marks_c, a_marks_l⟩⟩ := a
  obtain ⟨b_version, b_has, b_val, ⟨b_marks_a, b_marks_c, b_marks_l⟩⟩ := b
  have k_a_marks : SlK M MarkV.segs 6 ⟨a_marks_a, a_marks_c, a_marks_l⟩ := ha0.h0
  have s_a_marks : SlM M a_marks_a (a_marks_l.map MarkV.segs) 6 := k_a_marks.h1
  have n_a_marks : (a_marks_l.map MarkV.segs).length = a_marks_l.length := List.length_map ..
  have m_a_marks : a_marks_l.length ≤ 9223372036854775807 := k_a_marks.h2
  have c_a_marks : a_marks_l.length ≤ a_marks_c := k_a_marks.h3
  have k_b_marks : SlK M MarkV.segs 6 ⟨b_marks_a, b_marks_c, b_marks_l⟩ := hb1.h0
  have s_b_marks : SlM M b_marks_a (b_marks_l.map MarkV.segs) 6 := k_b_marks.h1
  have n_b_marks : (b_marks_l.map MarkV.segs).length = b_marks_l.length := List.length_map ..
  have m_b_marks : b_marks_l.length ≤ 9223372036854775807 := k_b_marks.h2
  have c_b_marks : b_marks_l.length ≤ b_marks_c := k_b_marks.h3
  refine fs_enter Try.func25 rfl Try.ntmps25 rfl ?_; intro H
  refine C_seq ?_
  refine C_region (l := [0, 1, 2]) rfl ?_
  refine Y_box ?_; intro b1
  refine Y_box ?_; intro b2
  refine Y_assign ?_
  refine XD_end ?_
  refine K_then ?_
  refine Y_pk [4, 3, 2] ?_
  iterate 2 refine C_seq ?_
  refine C_region (l := [0, 1, 2, 3, 4, 5, 6, 7, 8, 9, 10, 11, 12, 13, 14, 15, 16, 17, 18, 19, 20, 21, 22, 23, 24, 25, 26, 27]) rfl ?_
  refine Y_fieldAddr F.foff37_0 ?_
  refine Y_load F.lay34 ?_
  refine Y_fieldAddr F.foff37_0 ?_
  refine Y_load F.lay34 ?_
  refine Y_cmp ?_
  refine Y_move ?_
  refine XD_part 11 rfl (fun hc3 => ?_) (fun hc3 => ?_)
  ·replace hc3 := nT hc3
   iterate 5 refine Y_skip ?_
   refine Y_pick ?_
   refine Y_move ?_
   iterate 5 refine Y_skip ?_
   refine Y_pick ?_
   refine Y_move ?_
   iterate 7 refine Y_skip ?_
   refine Y_pick ?_
   refine XD_end ?_
   refine K_then ?_
   refine Y_pk [33, 4, 3, 2] ?_
   refine C_true rfl ?_
   refine C_seq ?_
   refine C_region (l := [0]) rfl ?_
   refine Y_assign ?_
   refine XD_end ?_
   refine K_then ?_
   refine Y_pk [4, 3, 2] ?_
   refine C_ret ?_
   refine K_ret ?_
   refine K_end (.inr rfl) (.tmp rfl .nil) (fun w hw => ?_)
   refine ⟨_, rfl, (hw.c), ?_⟩
   clear hw
   refine congrArg Value.bool ?_
   exact (decide_eq_false (fun h9 => by have h8 := congrArg Cel.version h9; have h7 := congrArg Cel.has h9; have h6 := congrArg Cel.val h9; have h5 := congrArg (fun c => c.marks.length) h9; simp only [CellV.pl] at h8 h7 h6 h5; first | omega | contradiction | (simp_all; done))).symm
  ·replace hc3 := nF hc3
   refine Y_fieldAddr F.foff37_1 ?_
   refine Y_load F.lay4 ?_
   refine Y_fieldAddr F.foff37_1 ?_
   refine Y_load F.lay4 ?_
   refine X_eqb rfl rfl rfl rfl rfl Try.underlying4 rfl ?_
   refine Y_pick ?_
   refine Y_move ?_
   refine XD_part 18 rfl (fun hc4 => ?_) (fun hc4 => ?_)
   ·replace hc4 := nT hc4
    iterate 5 refine Y_skip ?_
    refine Y_pick ?_
    refine Y_move ?_
    iterate 7 refine Y_skip ?_
    refine Y_pick ?_
    refine XD_end ?_
    refine K_then ?_
    refine Y_pk [33, 4, 3, 2] ?_
    refine C_true rfl ?_
    refine C_seq ?_
    refine C_region (l := [0]) rfl ?_
    refine Y_assign ?_
    refine XD_end ?_
    refine K_then ?_
    refine Y_pk [4, 3, 2] ?_
    refine C_ret ?_
    refine K_ret ?_
    refine K_end (.inr rfl) (.tmp rfl .nil) (fun w hw => ?_)
    refine ⟨_, rfl, (hw.c), ?_⟩
    clear hw
    refine congrArg Value.bool ?_
    exact (decide_eq_false (fun h9 => by have h8 := congrArg Cel.version h9; have h7 := congrArg Cel.has h9; have h6 := congrArg Cel.val h9; have h5 := congrArg (fun c => c.marks.length) h9; simp only [CellV.pl] at h8 h7 h6 h5; first | omega | contradiction | (simp_all; done))).symm
   ·replace hc4 := nF hc4
    refine Y_fieldAddr F.foff37_2 ?_
    refine Y_load F.lay9 ?_
    refine Y_fieldAddr F.foff37_2 ?_
    refine Y_load F.lay9 ?_
    refine Y_str ?_
    refine Y_pick ?_
    refine Y_move ?_
    refine XD_part 25 rfl (fun hc5 => ?_) (fun hc5 => ?_)
    ·replace hc5 := nT hc5
     iterate 7 refine Y_skip ?_
     refine Y_pick ?_
     refine XD_end ?_
     refine K_then ?_
     refine Y_pk [33, 4, 3, 2] ?_
     refine C_true rfl ?_
     refine C_seq ?_
     refine C_region (l := [0]) rfl ?_
     refine Y_assign ?_
     refine XD_end ?_
     refine K_then ?_
     refine Y_pk [4, 3, 2] ?_
     refine C_ret ?_
     refine K_ret ?_
     refine K_end (.inr rfl) (.tmp rfl .nil) (fun w hw => ?_)
     refine ⟨_, rfl, (hw.c), ?_⟩
     clear hw
     refine congrArg Value.bool ?_
     exact (decide_eq_false (fun h9 => by have h8 := congrArg Cel.version h9; have h7 := congrArg Cel.has h9; have h6 := congrArg Cel.val h9; have h5 := congrArg (fun c => c.marks.length) h9; simp only [CellV.pl] at h8 h7 h6 h5; first | omega | contradiction | (simp_all; done))).symm
    ·replace hc5 := nF hc5
     refine Y_fieldAddr F.foff37_3 ?_
     refine Y_load F.lay35 ?_
     refine Y_len_sl F.elem35 ?_
     refine Y_fieldAddr F.foff37_3 ?_
     refine Y_load F.lay35 ?_
     refine Y_len_sl F.elem35 ?_
     refine Y_cmp ?_
     refine Y_pick ?_
     refine XD_end ?_
     refine K_then ?_
     refine Y_pk [33, 4, 3, 2] ?_
     refine C_cond rfl (fun hc6 => ?_) (fun hc6 => ?_)
     ·replace hc6 := nT hc6
      refine C_seq ?_
      refine C_region (l := [0]) rfl ?_
      refine Y_assign ?_
      refine XD_end ?_
      refine K_then ?_
      refine Y_pk [4, 3, 2] ?_
      refine C_ret ?_
      refine K_ret ?_
      refine K_end (.inr rfl) (.tmp rfl .nil) (fun w hw => ?_)
      refine ⟨_, rfl, (hw.c), ?_⟩
      clear hw
      refine congrArg Value.bool ?_
      exact (decide_eq_false (fun h9 => by have h8 := congrArg Cel.version h9; have h7 := congrArg Cel.has h9; have h6 := congrArg Cel.val h9; have h5 := congrArg (fun c => c.marks.length) h9; simp only [CellV.pl] at h8 h7 h6 h5; first | omega | contradiction | (simp_all; done))).symm
     ·replace hc6 := nF hc6
      refine C_skip ?_
      refine K_then ?_
      refine Y_pk [4, 3, 2] ?_
      iterate 2 refine C_seq ?_
      refine C_region (l := [0]) rfl ?_
      refine Y_assign ?_
      refine XD_end ?_
      refine K_then ?_
      refine C_block ?_
      refine Y_pk [5, 4, 3, 2] ?_
      refine C_loopS (.succ .zero) (fun (k : Nat) z => z = [(5, .int .i64 (k : Int))] ∧ k ≤ a_marks_l.length ∧ (∀ j (h2 : j < a_marks_l.length) (h3 : j < b_marks_l.length), j < k → a_marks_l[j] = b_marks_l[j])) (fun k => a_marks_l.length - k) (0) (⟨rfl, by omega, by (intro j h2 h3 hj; omega)⟩) ?_
      rintro k _ ⟨rfl, hk, hI⟩
      iterate 2 refine C_seq ?_
      refine C_region (l := [0, 1, 2, 3, 4]) rfl ?_
      refine Y_move ?_
      refine Y_fieldAddr F.foff37_3 ?_
      refine Y_load F.lay35 ?_
      refine Y_len_sl F.elem35 ?_
      refine Y_cmp ?_
      refine XD_end ?_
      refine K_then ?_
      refine C_cond rfl (fun hc7 => ?_) (fun hc7 => ?_)
      ·replace hc7 := dT hc7
       refine C_skip ?_
       refine K_then ?_
       refine C_seq ?_
       refine C_block ?_
       refine C_seq ?_
       refine C_region_any (l := [0, 1, 2, 3, 4, 5, 6, 7, 8, 9, 10]) #[0, 1, 0, 7, 15, 0, 32, 0, 224, 480, 1023] _ rfl (by kernel_rfl) (by kernel_rfl) St.drawn (fun _ h => h) ?_
       refine Y_fieldAddr F.foff37_3 ?_
       refine Y_load F.lay35 ?_
       refine Y_move ?_
       refine X_indexAddr rfl rfl rfl rfl F.elem35 (by rfl) (by omega) (by exact SlM.plain (by assumption) (by (simp; omega))) rfl ?_
       refine X_load_el rfl rfl rfl (by assumption) (by exact row_map (by omega)) F.lay70 rfl rfl rfl ?_
       refine Y_fieldAddr F.foff37_3 ?_
       refine Y_load F.lay35 ?_
       refine Y_move ?_
       refine X_indexAddr rfl rfl rfl rfl F.elem35 (by rfl) (by omega) (by exact SlM.plain (by assumption) (by (simp; omega))) rfl ?_
       refine X_load_el rfl rfl rfl (by assumption) (by exact row_map (by omega)) F.lay70 rfl rfl rfl ?_
       refine X_same (m := 20) rfl rfl rfl rfl rfl (by constructor) (by constructor) F.lay70 F.kinds70 rfl F.guard70 (by exact FitMarkV _) (by exact FitMarkV _) rfl rfl rfl ?_; intro c8 he9
       replace he9 : c8 = true ↔ ¬ (Segs.cells _ = Segs.cells _) := he9
       obtain rfl := neD he9 (MarkV.inj (x := ⟨_, _, ⟨_, _, _, _⟩⟩) (y := ⟨_, _, ⟨_, _, _, _⟩⟩)); clear he9
       refine XD_end ?_
       refine K_then ?_
       refine C_cond rfl (fun hc10 => ?_) (fun hc10 => ?_)
       ·replace hc10 := nT hc10
        simp only [AnswerV.eta, MarkV.eta, CellV.eta, HeldV.eta, PeerV.eta] at hc10
        simp only [List.get_eq_getElem] at hc10
        refine C_seq ?_
        refine C_region (l := [0]) rfl ?_
        refine Y_assign ?_
        refine XD_end ?_
        refine K_then ?_
        refine C_ret ?_
        refine K_retB ?_
        iterate 2 refine K_ret ?_
        refine K_retB ?_
        refine K_ret ?_
        refine K_end (.inr rfl) (.tmp rfl .nil) (fun w hw => ?_)
        refine ⟨_, rfl, (hw.c), ?_⟩
        clear hw
        refine congrArg Value.bool ?_
        exact (decide_eq_false (fun h9 => by have h8 : a_marks_l = b_marks_l := congrArg Cel.marks h9; exact absurd (by simp only [h8] : a_marks_l[k] = b_marks_l[k]) (by assumption))).symm
       ·replace hc10 := nF hc10
        simp only [AnswerV.eta, MarkV.eta, CellV.eta, HeldV.eta, PeerV.eta] at hc10
        simp only [List.get_eq_getElem] at hc10
        refine C_skip ?_
        refine K_out ?_
        refine K_then ?_
        refine C_region (l := [0, 1, 2]) rfl ?_
        refine Y_move ?_
        refine X_ari rfl rfl rfl rfl rfl (by exact wrap_in (by decide) (by omega)) rfl ?_
        refine Y_assign ?_
        refine XD_end ?_
        refine K_roundS (a' := [(5, _)]) (k + 1) (.cons (k := 5) rfl (.cons (k := 4) rfl (.cons (k := 3) rfl (.cons (k := 2) rfl (.nil))))) (fun w hw => by first | exact hw | exact hw.c) ?_ ?_
        ·refine ⟨rfl, by omega, ?_⟩
         (intro j h2 h3 hj; rcases Nat.lt_or_ge j k with h9 | h9; exact hI j h2 h3 h9; obtain rfl : j = k := (by omega); simp_all)
        ·omega
      ·replace hc7 := dF hc7
       refine C_exit ?_
       iterate 2 refine K_exit ?_
       refine K_hit ?_
       refine K_then ?_
       refine Y_pk [4] ?_
       refine C_seq ?_
       refine C_region (l := [0]) rfl ?_
       refine Y_assign ?_
       refine XD_end ?_
       refine K_then ?_
       refine C_ret ?_
       refine K_end (.inr rfl) (.tmp rfl .nil) (fun w hw => ?_)
       refine ⟨_, rfl, (hw.c), ?_⟩
       clear hw
       refine congrArg Value.bool ?_
       exact (decide_eq_true (by rw [show a_marks_l = b_marks_l from List.ext_getElem (by omega) (fun j h2 h3 => hI j h2 h3 (by omega))]; simp_all [CellV.pl])).symm

end Go.Proofs.Ytbafnjniijodfaa
/-
  Maps with places as keys, that are ours; ranges over them.
-/
set_option linter.unusedSimpArgs false
set_option linter.unusedVariables false
set_option linter.unnecessarySimpa false
namespace Go.Esp
variable {α : Type}
/-- What a map holds, in the order in which its keys came. -/
abbrev PM (α : Type) := List (Plc × α)
def pmGet : PM α → Plc → Option α
  | [], _ => none
  | (j, v) :: r, k => if k = j then some v else pmGet r k
def pmPut : PM α → Plc → α → PM α
  | [], k, v => [(k, v)]
  | (j, u) :: r, k, v => if k = j then (j, v) :: r else (j, u) :: pmPut r k v
def keyV (x : Plc) : Value := aggV [idSeg x]
theorem keyV_inj {x y : Plc} : keyV x = keyV y ↔ x = y := by
  constructor
  · intro h
    have h1 : (Segs.cells [idSeg x]).toArray = (Segs.cells [idSeg y]).toArray := by simpa [keyV, aggV] using h
    exact cells_id1.1 (by simpa using h1)
  · rintro rfl; rfl
def enP (en : α → Value) (p : Plc × α) : Value × Value := (keyV p.1, en p.2)
/-- An object is a map that holds just these. -/
def pmO (en : α → Value) (o : Obj) (l : PM α) : Prop := ∃ es clock, o = .map es clock ∧ kvs es = l.map (enP en) ∧ (∀ x ∈ es.toList, x.born < clock) ∧ (es.toList.map (·.born)).Nodup
theorem pmO.nil (en : α → Value) : pmO en (.map #[] 0) [] := ⟨#[], 0, rfl, rfl, fun x h => (by cases h), List.nodup_nil⟩

/-- A type is that of places. -/
structure IdK (P : Program) (k u : TypeId) (ks : List Kd) : Prop where
  ku : P.underlying k = some (.array 20 u)
  uu : P.underlying u = some (.int .u8)
  us : ∃ i, P.info? u = some i ∧ i.size = 1
  kk : kindsOf P 20 k = some ks
  fit : ∀ x : Plc, Fits ks (Segs.cells [idSeg x])
section
variable {P : Program} {w : World} {k u : TypeId} {ks : List Kd} {en : α → Value}
theorem run_equal_id (hK : IdK P k u ks) (x y : Plc) : (Op.equal k (keyV x) (keyV y)).run P w = .ok (decide (x = y)) w := by
  have mk1 : ∀ R, mkV P k (Segs.cells R) = aggV R := fun R => by unfold mkV; rw [hK.ku]; rfl
  obtain ⟨r, hr, hiff⟩ := run_equalK (P := P) (10000 - 20) 20 k ks hK.kk w _ _ (hK.fit x) (hK.fit y)
  rw [mk1, mk1, show 10000 - 20 + 20 = 10000 by omega] at hr
  have : r = decide (x = y) := by
    by_cases h : x = y
    · rw [decide_eq_true h]; exact hiff.2 (by rw [h])
    · rw [decide_eq_false h]
      cases r with
      | false => rfl
      | true => exact absurd (cells_id1.1 (hiff.1 rfl)) h
  rw [← this]
  exact hr
theorem run_checkKey_id (hK : IdK P k u ks) (b : Bool) (x : Plc) : (Instr.checkKey b 10000 k (keyV x)).run P w = .ok () w := by
  obtain ⟨i, hi, hs⟩ := hK.us
  show (Instr.checkKey b (9999 + 1) k (keyV x)).run P w = .ok () w
  have e : keyV x = .agg (Segs.cells [idSeg x]).toArray := rfl
  rw [e, Instr.checkKey]
  simp only [Sem.run_bind, run_underlying' hK.ku, Result.andThen_ok]
  simp only [Std.Legacy.Range.forIn_eq_forIn_range', Std.Legacy.Range.size, Nat.sub_zero, Nat.add_one_sub_one, Nat.div_one]
  have each : ∀ j ∈ List.range' 0 20, j < 20 := fun j hj => by have := List.mem_range'_1.1 hj; omega
  generalize List.range' 0 20 = is at each
  induction is with
  | nil => simp
  | cons j is ih =>
    have hj := each j (by simp)
    have p1 : (part u (Segs.cells [idSeg x]).toArray (j * i.size)).run P w = .ok (.int .u8 (idB x j)) w := by
      unfold part
      rw [run_bind_ok (run_isAgg hK.uu)]
      rw [hs, Nat.mul_one]
      have : (Segs.cells [idSeg x]).toArray[j]? = some (.int .u8 (idB x j)) := by simpa using id_at' (x := x) hj
      simp only [aggD, Bool.false_eq_true, if_false, this]
      rfl
    have p2 : (Instr.checkKey b 9999 u (.int .u8 (idB x j))).run P w = .ok () w := by
      show (Instr.checkKey b (9998 + 1) u _).run P w = _
      unfold Instr.checkKey
      rw [run_bind_ok (run_underlying' hK.uu)]
      rfl
    simp only [List.forIn_cons, Sem.run_bind, run_sizeOf' hi, Result.andThen_ok, p1, p2, Sem.run_pure]
    exact ih (fun y hy => each y (by simp [hy]))
theorem run_findAsking_id (hK : IdK P k u ks) (x : Plc) : ∀ (es : List MapEntry) (l : PM α) (i : Nat), es.map (fun x => (x.key, x.val)) = l.map (enP en) →
    (Instr.findAsking k (keyV x) es i).run P w = .ok (match pmGet l x with | some v => some (i + (l.findIdx fun p => x = p.1), en v) | none => none) w
  | [], [], i, _ => rfl
  | [], _ :: _, _, h => by simp at h
  | _ :: _, [], _, h => by simp at h
  | e :: es, (j, v) :: l, i, h => by
    simp only [List.map_cons, List.cons.injEq, enP, Prod.mk.injEq] at h
    obtain ⟨⟨h1, h2⟩, h3⟩ := h
    unfold Instr.findAsking
    rw [h1, run_bind_ok (run_equal_id hK x j)]
    by_cases e : x = j
    · subst e
      simp [pmGet, List.findIdx_cons, h2]
    · simp only [e, decide_false, Bool.false_eq_true, if_false]
      rw [run_findAsking_id hK x es l (i + 1) h3]
      simp only [pmGet, e, if_false]
      cases pmGet l x with
      | none => rfl
      | some u => simp [List.findIdx_cons, e]; omega
theorem run_findKey_id (hK : IdK P k u ks) (x : Plc) {es : Array MapEntry} {l : PM α} (h : kvs es = l.map (enP en)) :
    (Instr.findKey k (keyV x) es.toList).run P w = .ok (match pmGet l x with | some v => some (l.findIdx fun p => x = p.1, en v) | none => none) w := by
  unfold Instr.findKey
  rw [run_bind_ok (run_underlying' hK.ku)]
  have key := run_findAsking_id (w := w) hK x es.toList l 0 h
  simp only [Nat.zero_add] at key
  cases hes : es.toList with
  | nil =>
    have : l = [] := by
      unfold kvs at h; rw [hes] at h
      cases l with
      | nil => rfl
      | cons => simp at h
    subst this
    rfl
  | cons e r =>
    rw [hes] at key
    have : Instr.findNow (.array 20 u) (keyV x) (e :: r) 0 = none := by
      unfold Instr.findNow
      have : Instr.sameNow (.array 20 u) (keyV x) e.key = none := by
        unfold Instr.sameNow; rfl
      rw [this]
    rw [this]
    exact key
theorem pmGet_lt {x : Plc} : ∀ {l : PM α} {v : α}, pmGet l x = some v → l[l.findIdx fun p => x = p.1]? = some (x, v)
  | [], _, h => by simp [pmGet] at h
  | (j, u) :: l, v, h => by
    unfold pmGet at h
    by_cases e : x = j
    · subst e; simp at h; subst h; simp [List.findIdx_cons]
    · simp only [e, if_false] at h
      simp only [List.findIdx_cons, e, decide_false, cond_false]
      simpa using pmGet_lt h
theorem pmGet_mem {x : Plc} {l : PM α} {v : α} (h : pmGet l x = some v) : (x, v) ∈ l := List.mem_of_getElem? (pmGet_lt h)
theorem kvs_modify_id {x : Plc} {v : α} : ∀ {l : PM α} {es : List MapEntry}, es.map (fun x => (x.key, x.val)) = l.map (enP en) → (pmGet l x).isSome = true →
    (es.modify (l.findIdx fun p => x = p.1) fun y => { y with key := keyV x, val := en v }).map (fun x => (x.key, x.val)) = (pmPut l x v).map (enP en)
  | [], _, _, h => by simp [pmGet] at h
  | _ :: _, [], h, _ => by simp at h
  | (j, u) :: l, y :: es, h, hs => by
    simp only [List.map_cons, List.cons.injEq, enP, Prod.mk.injEq] at h
    obtain ⟨⟨h1, h2⟩, h3⟩ := h
    by_cases e : x = j
    · subst e
      simp [List.findIdx_cons, pmPut, enP]
      exact h3
    · simp only [pmGet, e, if_false] at hs
      have ih := kvs_modify_id (v := v) h3 hs
      simp only [List.findIdx_cons, e, decide_false, cond_false, pmPut, if_false, List.modify_succ_cons, List.map_cons, h1, h2, ih]
      rfl
theorem modify_born {es : List MapEntry} {j : Nat} {a b : Value} : (es.modify j fun y => { y with key := a, val := b }).map (·.born) = es.map (·.born) := by
  induction es generalizing j with
  | nil => simp
  | cons y es ih =>
    cases j with
    | zero => simp
    | succ j => simp [ih]
theorem pmPut_none {x : Plc} {v : α} : ∀ {l : PM α}, pmGet l x = none → pmPut l x v = l ++ [(x, v)]
  | [], _ => rfl
  | (j, u) :: l, h => by
    unfold pmGet at h
    by_cases e : x = j
    · simp [e] at h
    · simp only [e, if_false] at h
      simp [pmPut, e, pmPut_none h]
theorem run_lookup_id {t el : TypeId} {b : Nat} {o : Obj} {l : PM α} {x : Plc} {z : α} (hK : IdK P k u ks) (ht : P.underlying t = some (.map k el)) (hz : zeroOf P el = some (en z)) (hb : w.heap[b]? = some o) (ho : pmO en o l) :
    (Instr.lookup t (.map (some b)) (keyV x) true).run P w = .ok (.tuple #[en ((pmGet l x).getD z), .bool (pmGet l x).isSome]) w := by
  obtain ⟨es, c, rfl, hk, _, _⟩ := ho
  have hzv : (zeroValue el).run P w = .ok (en z) w := by
    unfold zeroOf at hz
    split at hz
    · rename_i it hit; simp [zeroValue, typeInfo, hit, hz]
    · cases hz
  unfold Instr.lookup
  rw [run_bind_ok (run_underlying' ht)]
  simp only []
  rw [run_bind_ok (run_getObj' hb)]
  simp only []
  rw [run_bind_ok (show (pure es : Sem (Array MapEntry)).run P w = .ok es w from rfl), run_bind_ok (run_checkKey_id hK _ x), run_bind_ok (run_findKey_id hK x hk)]
  cases hg : pmGet l x with
  | some v => rfl
  | none =>
    simp only []
    rw [run_bind_ok hzv]
    rfl
theorem sameBits_id (x : Plc) : Instr.sameBits 10000 (keyV x) (keyV x) = true := by
  show Instr.sameBits (9999 + 1) (.agg (Segs.cells [idSeg x]).toArray) (.agg (Segs.cells [idSeg x]).toArray) = true
  unfold Instr.sameBits
  simp only [beq_self_eq_true, Bool.true_and, List.all_eq_true]
  rintro ⟨a, b⟩ hab
  have e1 : Segs.cells [idSeg x] = (idV x).toList := by simp [Segs.cells, idSeg, Seg.cells]
  simp only [e1] at hab
  have hmem : a ∈ (idV x).toList := (List.of_mem_zip hab).1
  have heq : a = b := by
    obtain ⟨j, hj, hjj⟩ := List.getElem_of_mem hab
    rw [List.getElem_zip] at hjj
    have := Prod.mk.inj hjj
    rw [← this.1, ← this.2]
  subst heq
  rw [idV_list] at hmem
  obtain ⟨j, _, rfl⟩ := List.mem_map.1 hmem
  show Instr.sameBits (9998 + 1) _ _ = true
  simp [Instr.sameBits]
theorem run_mapUpdate_id {t el : TypeId} {b : Nat} {o : Obj} {l : PM α} {x : Plc} {v : α} (hK : IdK P k u ks) (ht : P.underlying t = some (.map k el)) (hb : w.heap[b]? = some o) (ho : pmO en o l) :
    ∃ o', (Instr.mapUpdate t (.map (some b)) (keyV x) (en v)).run P w = .ok () { w with heap := w.heap.setIfInBounds b o' } ∧ pmO en o' (pmPut l x v) := by
  obtain ⟨es, c, rfl, hk, hlt, hnd⟩ := ho
  unfold Instr.mapUpdate
  rw [run_bind_ok (run_underlying' ht)]
  simp only []
  rw [run_bind_ok (run_getObj' hb)]
  simp only []
  rw [run_bind_ok (run_checkKey_id hK _ x), run_bind_ok (run_findKey_id hK x hk)]
  cases hg : pmGet l x with
  | some v0 =>
    simp only []
    have hq := pmGet_lt hg
    obtain ⟨y, hy, hyk⟩ : ∃ y, es[l.findIdx fun p => x = p.1]? = some y ∧ y.key = keyV x := by
      have h3 : (kvs es)[l.findIdx fun p => x = p.1]? = some (keyV x, en v0) := by rw [hk]; simp [hq, enP]
      simp only [kvs, List.getElem?_map, Option.map_eq_some_iff] at h3
      obtain ⟨y, hy, hyy⟩ := h3
      simp only [Prod.mk.injEq] at hyy
      exact ⟨y, by simpa using hy, hyy.1⟩
    have hst : (Instr.keyThatStays (((es[l.findIdx fun p => x = p.1]?).map (·.key)).getD (keyV x)) (keyV x)).run P w = .ok (keyV x) w := by
      rw [hy]
      simp only [Option.map_some, Option.getD_some, hyk]
      unfold Instr.keyThatStays
      simp only [sameBits_id, if_true]
      rfl
    rw [run_bind_ok hst]
    have hm : (es.modify (l.findIdx fun p => x = p.1) fun e => { e with key := keyV x, val := en v }).toList = es.toList.modify (l.findIdx fun p => x = p.1) (fun e => { e with key := keyV x, val := en v }) := by simp
    have hbn := modify_born (es := es.toList) (j := l.findIdx fun p => x = p.1) (a := keyV x) (b := en v)
    refine ⟨_, run_setObj' hb _, _, _, rfl, ?_, ?_, ?_⟩
    · unfold kvs
      rw [hm]
      exact kvs_modify_id hk (by simp [hg])
    · intro y hy
      rw [hm] at hy
      have h1 : y.born ∈ es.toList.map (·.born) := by rw [← hbn]; exact List.mem_map_of_mem hy
      obtain ⟨y', hy', he⟩ := List.mem_map.1 h1
      rw [← he]; exact hlt y' hy'
    · rw [hm, hbn]; exact hnd
  | none =>
    simp only []
    refine ⟨_, run_setObj' hb _, _, _, rfl, ?_, ?_, ?_⟩
    · rw [pmPut_none hg, kvs_push, hk]; simp [enP]
    · intro y hy
      simp only [Array.toList_push, List.mem_append, List.mem_singleton] at hy
      rcases hy with hy | rfl
      · have := hlt y hy; omega
      · exact Nat.lt_succ_self _
    · simp only [Array.toList_push, List.map_append, List.map_cons, List.map_nil, List.nodup_append]
      refine ⟨hnd, by simp, ?_⟩
      intro a ha b hb e
      simp only [List.mem_singleton] at hb
      obtain ⟨y, hy, rfl⟩ := List.mem_map.1 ha
      have := hlt y hy; omega
end
/-! Ranges. -/
/-- Two lists, item by item. -/
inductive Al2 {β : Type} (R : Nat → β → Prop) : List Nat → List β → Prop
  | nil : Al2 R [] []
  | cons {j : Nat} {p : β} {js : List Nat} {sv : List β} : R j p → Al2 R js sv → Al2 R (j :: js) (p :: sv)
/-- An iterator over the map that lies at b, and what came so far. -/
def itO (en : α → Value) (b : Nat) (oi om : Obj) (l sv : PM α) : Prop :=
  ∃ (es : Array MapEntry) (clock : Nat) (sn : Array Nat) (js : List Nat), om = .map es clock ∧ kvs es = l.map (enP en) ∧ (∀ x ∈ es.toList, x.born < clock) ∧ (es.toList.map (·.born)).Nodup ∧
    oi = .mapIter (some b) clock sn clock ∧ js.Nodup ∧ sn.toList = js.filterMap (fun j => es[j]?.map (·.born)) ∧ Al2 (fun j p => l[j]? = some p) js sv
theorem itO.start {en : α → Value} {b : Nat} {om : Obj} {l : PM α} (h : pmO en om l) : ∃ es c, om = .map es c ∧ itO en b (.mapIter (some b) c #[] c) om l [] := by
  obtain ⟨es, c, rfl, h1, h2, h3⟩ := h
  exact ⟨es, c, rfl, es, c, #[], [], rfl, h1, h2, h3, rfl, List.nodup_nil, rfl, .nil⟩
theorem forall2_getD {l : PM α} {p0 : Plc × α} : ∀ {js : List Nat} {sv : PM α}, Al2 (fun j p => l[j]? = some p) js sv → sv = js.map fun j => l[j]?.getD p0
  | [], _, h => by cases h; rfl
  | j :: js, _, h => by
    cases h with
    | cons h1 h2 => simp [h1, ← forall2_getD h2]
theorem forall2_lt {l : PM α} : ∀ {js : List Nat} {sv : PM α}, Al2 (fun j p => l[j]? = some p) js sv → ∀ j ∈ js, j < l.length
  | [], _, h => fun j hj => by cases hj
  | i :: js, _, h => fun j hj => by
    cases h with
    | cons h1 h2 =>
      rcases List.mem_cons.1 hj with rfl | hj
      · exact (List.getElem?_eq_some_iff.1 h1).1
      · exact forall2_lt h2 j hj
theorem forall2_app {R : Nat → Plc × α → Prop} : ∀ {js : List Nat} {sv : PM α} {j : Nat} {p : Plc × α}, Al2 R js sv → R j p → Al2 R (js ++ [j]) (sv ++ [p])
  | [], _, _, _, h, h2 => by cases h; exact .cons h2 .nil
  | _ :: _, _, _, _, h, h2 => by
    cases h with
    | cons g1 g2 => exact .cons g1 (forall2_app g2 h2)
theorem forall2_unapp {R : Nat → Plc × α → Prop} : ∀ {js : List Nat} {sv : PM α} {p : Plc × α}, Al2 R js (sv ++ [p]) → ∃ js' j, js = js' ++ [j] ∧ Al2 R js' sv ∧ R j p
  | _, [], _, h => by
    cases h with
    | cons g1 g2 => cases g2; exact ⟨[], _, rfl, .nil, g1⟩
  | _, s :: sv, p, h => by
    cases h with
    | cons g1 g2 =>
      obtain ⟨js', j, rfl, h1, h2⟩ := forall2_unapp g2
      exact ⟨_ :: js', j, rfl, .cons g1 h1, h2⟩
theorem born_inj {es : List MapEntry} (hn : (es.map (·.born)).Nodup) {i j : Nat} (hi : i < es.length) (hj : j < es.length) (h : es[i].born = es[j].born) : i = j := by
  have h1 : (es.map (·.born))[i]'(by simpa using hi) = (es.map (·.born))[j]'(by simpa using hj) := by simpa using h
  rcases Nat.lt_trichotomy i j with h9 | h9 | h9
  · exact absurd h1 ((List.pairwise_iff_getElem.1 hn) i j (by simpa using hi) (by simpa using hj) h9)
  · exact h9
  · exact absurd h1.symm ((List.pairwise_iff_getElem.1 hn) j i (by simpa using hj) (by simpa using hi) h9)
theorem kvs_len {en : α → Value} {es : Array MapEntry} {l : PM α} (h : kvs es = l.map (enP en)) : es.toList.length = l.length := by have := congrArg List.length h; simpa [kvs] using this
theorem seen_iff {es : Array MapEntry} {sn : Array Nat} {js : List Nat} (hn : (es.toList.map (·.born)).Nodup) (hs : sn.toList = js.filterMap (fun j => es[j]?.map (·.born))) (hl : ∀ j ∈ js, j < es.toList.length) {j : Nat} (hj : j < es.toList.length) :
    es.toList[j].born ∈ sn.toList ↔ j ∈ js := by
  rw [hs, List.mem_filterMap]
  constructor
  · rintro ⟨i, hi, he⟩
    have hil := hl i hi
    have h1 : es[i]? = some es.toList[i] := by simp
    rw [h1] at he
    simp only [Option.map_some, Option.some.injEq] at he
    rw [← born_inj hn hil hj he]; exact hi
  · intro h
    exact ⟨j, h, by have h1 : es[j]? = some es.toList[j] := by simp
                    rw [h1]; rfl⟩
theorem all_seen {es : Array MapEntry} {sn : Array Nat} (h : (leftOf es sn).size = 0) {x : MapEntry} (hx : x ∈ es.toList) : x.born ∈ sn.toList := by
  apply Decidable.byContradiction
  intro hc
  have h1 : x ∈ leftOf es sn := by
    unfold leftOf
    rw [Array.mem_filter]
    exact ⟨by simpa using hx, by simpa using hc⟩
  have h2 : leftOf es sn = #[] := Array.eq_empty_of_size_eq_zero h
  rw [h2] at h1
  simp at h1
theorem itO.done {en : α → Value} {b : Nat} {oi om : Obj} {l sv : PM α} {es : Array MapEntry} {clock : Nat} {sn : Array Nat} (h : itO en b oi om l sv) (h1 : om = .map es clock) (h2 : oi = .mapIter (some b) clock sn clock) (h0 : (leftOf es sn).size = 0) : sv.Perm l := by
  obtain ⟨es', c', sn', js, e1, hk, hlt, hnd, e2, hjn, hs, hf⟩ := h
  subst e1
  obtain ⟨rfl, rfl⟩ := Obj.map.inj h1
  subst e2
  have e3 : sn' = sn := (Obj.mapIter.inj h2).2.2.1
  subst e3
  have hlen := kvs_len hk
  have hjl : ∀ j ∈ js, j < es'.toList.length := fun j hj => by rw [hlen]; exact forall2_lt hf j hj
  have hp : js.Perm (List.range l.length) := by
    refine (List.perm_ext_iff_of_nodup hjn List.nodup_range).2 fun j => ?_
    rw [List.mem_range]
    constructor
    · intro hj; exact forall2_lt hf j hj
    · intro hj
      have hj' : j < es'.toList.length := by omega
      exact (seen_iff hnd hs hjl hj').1 (all_seen h0 (List.getElem_mem hj'))
  cases l with
  | nil =>
    have : js = [] := by simpa using hp
    subst this
    cases hf
    exact .refl _
  | cons p0 l' =>
    rw [forall2_getD (p0 := p0) hf]
    have h9 := hp.map fun j => ((p0 :: l')[j]?).getD p0
    refine h9.trans (List.Perm.of_eq ?_)
    apply List.ext_getElem (by simp)
    intro i g1 g2
    simp only [List.getElem_map, List.getElem_range, List.getElem?_eq_getElem g2, Option.getD_some]
theorem itO.step {en : α → Value} {b : Nat} {oi om : Obj} {l sv : PM α} {es : Array MapEntry} {clock : Nat} {sn : Array Nat} {x : MapEntry} (h : itO en b oi om l sv) (h1 : om = .map es clock) (h2 : oi = .mapIter (some b) clock sn clock) (hx : x ∈ (leftOf es sn).toList) :
    ∃ p, p ∈ l ∧ x.key = keyV p.1 ∧ x.val = en p.2 ∧ itO en b (.mapIter (some b) clock (sn.push x.born) clock) om l (sv ++ [p]) := by
  obtain ⟨es', c', sn', js, e1, hk, hlt, hnd, e2, hjn, hs, hf⟩ := h
  subst e1
  obtain ⟨rfl, rfl⟩ := Obj.map.inj h1
  subst e2
  have e3 : sn' = sn := (Obj.mapIter.inj h2).2.2.1
  subst e3
  obtain ⟨hxe, hxs⟩ := mem_left hx
  obtain ⟨j, hj, rfl⟩ := List.getElem_of_mem hxe
  have hlen := kvs_len hk
  have hjl : j < l.length := by omega
  have hjs : j ∉ js := fun hc => by
    have := (seen_iff hnd hs (fun i hi => by rw [hlen]; exact forall2_lt hf i hi) hj).2 hc
    have h3 : es'.toList[j].born ∈ sn' := by simpa using this
    have h4 : sn'.contains es'.toList[j].born = true := by simpa using h3
    rw [h4] at hxs; cases hxs
  have hkv : (es'.toList[j].key, es'.toList[j].val) = enP en l[j] := by
    have h5 : (kvs es')[j]? = (l.map (enP en))[j]? := by rw [hk]
    simp only [kvs, List.getElem?_map, List.getElem?_eq_getElem hj, List.getElem?_eq_getElem hjl, Option.map_some, Option.some.injEq] at h5
    exact h5
  simp only [enP, Prod.mk.injEq] at hkv
  refine ⟨l[j], List.getElem_mem hjl, hkv.1, hkv.2, es', _, _, js ++ [j], rfl, hk, hlt, hnd, rfl, ?_, ?_, forall2_app hf (List.getElem?_eq_getElem hjl)⟩
  · rw [List.nodup_append]
    exact ⟨hjn, by simp, fun a ha b hb e => hjs (by simp at hb; subst hb; subst e; exact ha)⟩
  · rw [Array.toList_push, hs, List.filterMap_append]
    have h1 : es'[j]? = some es'.toList[j] := by simp
    simp [h1]
theorem itO.len {en : α → Value} {b : Nat} {oi om : Obj} {l sv : PM α} (h : itO en b oi om l sv) : sv.length ≤ l.length := by
  obtain ⟨es, c, sn, js, e1, hk, hlt, hnd, e2, hjn, hs, hf⟩ := h
  have h1 : js.length = sv.length := by
    clear hs hjn
    induction hf with
    | nil => rfl
    | cons _ _ ih => simp [ih]
  have h2 : js.length ≤ (List.range l.length).length := by
    have hp : js.Perm ((List.range l.length).filter fun j => decide (j ∈ js)) := (List.perm_ext_iff_of_nodup hjn (List.nodup_range.sublist List.filter_sublist)).2 fun j => by
      rw [List.mem_filter, List.mem_range]
      exact ⟨fun hj => ⟨forall2_lt hf j hj, by simpa using hj⟩, fun hj => by simpa using hj.2⟩
    rw [hp.length_eq]
    exact List.length_filter_le _ _
  rw [List.length_range] at h2
  omega
theorem itO.mem {en : α → Value} {b : Nat} {oi om : Obj} {l sv : PM α} (h : itO en b oi om l sv) : ∀ p ∈ sv, p ∈ l := by
  obtain ⟨es, c, sn, js, e1, hk, hlt, hnd, e2, hjn, hs, hf⟩ := h
  clear hs hjn
  induction hf with
  | nil => intro p hp; cases hp
  | cons h1 _ ih =>
    intro p hp
    rcases List.mem_cons.1 hp with rfl | hp
    · exact List.mem_of_getElem? h1
    · exact ih p hp
theorem itO.last {en : α → Value} {b : Nat} {oi om : Obj} {l sv : PM α} {p : Plc × α} (h : itO en b oi om l (sv ++ [p])) : ∃ (es : Array MapEntry) (clock : Nat) (sn : Array Nat) (x : MapEntry), om = .map es clock ∧ oi = .mapIter (some b) clock (sn.push x.born) clock ∧ x ∈ es.toList ∧ (es.toList.map (·.born)).Nodup ∧ x.key = keyV p.1 ∧ x.val = en p.2 := by
  obtain ⟨es, c, sn, js, rfl, hk, hlt, hnd, rfl, hjn, hs, hf⟩ := h
  obtain ⟨js', j, rfl, hf', hj⟩ := forall2_unapp hf
  have hlen := kvs_len hk
  obtain ⟨hjl, hjp⟩ := List.getElem?_eq_some_iff.1 hj
  have hje : j < es.toList.length := by omega
  have h1 : es[j]? = some es.toList[j] := by simp
  rw [List.filterMap_append] at hs
  simp only [List.filterMap_cons, h1, Option.map_some, List.filterMap_nil] at hs
  have hkv : (es.toList[j].key, es.toList[j].val) = enP en l[j] := by
    have h5 : (kvs es)[j]? = (l.map (enP en))[j]? := by rw [hk]
    simp only [kvs, List.getElem?_map, List.getElem?_eq_getElem hje, List.getElem?_eq_getElem hjl, Option.map_some, Option.some.injEq] at h5
    exact h5
  simp only [enP, Prod.mk.injEq, hjp] at hkv
  refine ⟨es, c, (js'.filterMap (fun j => es[j]?.map (·.born))).toArray, es.toList[j], rfl, ?_, List.getElem_mem hje, hnd, hkv.1, hkv.2⟩
  congr 1
  apply Array.toList_inj.1
  rw [hs]; simp

section
variable {P : Program} {n : Sh} {ops : Array Oper} {Q : Exit → Act → World → Prop} {rest : List Nat} {M M' : Mem} {H H' H0 : Hp} {e : Env} {J S : World → Prop} {A : As} {i : Nat}
  {dst : Option Tmp} {d : Tmp} {op : Op} {ty : TypeId} {pos : String} {af : Array Edge} {gd : Option (Nat × Bool)} {k u : TypeId} {ks : List Kd} {en : α → Value}
theorem X_lookup2P {t el : TypeId} {x y : Operand} {b : Nat} {p : Plc} {z : α} {o : Obj} {l : PM α} {MJ : Mem} {HJ : Hp} (hi : ops[i]? = some ⟨some d, .lookup t x y true, ty, pos, af, gd⟩) (hg : want ops e gd = some true)
    (hx : ev e x = some (.map (some b))) (hy : ev e y = some (keyV p)) (hK : IdK P k u ks) (ht : P.underlying t = some (.map k el)) (hz : zeroOf P el = some (en z)) (hb : (b, o) ∈ HJ) (ho : pmO en o l) (hd : Nat.ble (d + 1) n.sz = true)
    (hk : XD P n ops Q rest (St MJ HJ) A ((d, .tuple #[en ((pmGet l p).getD z), .bool (pmGet l p).isSome]) :: e)) : XD P n ops Q (i :: rest) (St MJ HJ) A e :=
  X_read hi rfl hg (fun a' w ha hw => runs_of (by
    simp only [execOp, ha.ev hx, ha.ev hy]
    exact run_v (run_lookup_id hK ht hz (hw.own _ _ hb) ho))) (fun a ha => ha.put hd _) hk
theorem X_len_mapP {t el : TypeId} {x : Operand} {b : Nat} {o : Obj} {l : PM α} {MJ : Mem} {HJ : Hp} {ats : Array TypeId} (hi : ops[i]? = some ⟨some d, .call ⟨.builtin .len, #[x], ats⟩, ty, pos, af, gd⟩) (hg : want ops e gd = some true)
    (hx : ev e x = some (.map (some b))) (hat : ats[0]? = some t) (ht : P.underlying t = some (.map k el)) (hb : (b, o) ∈ HJ) (ho : pmO en o l) (hd : Nat.ble (d + 1) n.sz = true) (hk : XD P n ops Q rest (St MJ HJ) A ((d, .int .i64 (l.length : Int)) :: e)) : XD P n ops Q (i :: rest) (St MJ HJ) A e :=
  X_read hi rfl hg (fun a' w ha hw => runs_of (by
    obtain ⟨es, c, rfl, hkv, _, _⟩ := ho
    have hl : es.size = l.length := by have := congrArg List.length hkv; simpa [kvs] using this
    simp only [execOp, resolve]
    simp [invoke, builtin, Builtin.len_, ha.ev hx, hat, run_underlying' ht, run_getObj' (hw.own _ _ hb), goInt, hl])) (fun a ha => ha.put hd _) hk
theorem X_mapUpdateP {t el : TypeId} {x y z : Operand} {b : Nat} {p : Plc} {v : α} {o : Obj} {l : PM α} (hi : ops[i]? = some ⟨none, .mapUpdate t x y z, ty, pos, af, gd⟩) (hg : want ops e gd = some true)
    (hx : ev e x = some (.map (some b))) (hy : ev e y = some (keyV p)) (hz : ev e z = some (en v)) (hK : IdK P k u ks) (ht : P.underlying t = some (.map k el)) (ho : pmO en o l) (hb : (b, o) ∈ H)
    (hk : ∀ o', pmO en o' (pmPut l p v) → ∃ H2, Upd b o o' H H2 ∧ XD P n ops Q rest (St M H2) ⟨M, H2⟩ e) (hnw : n.wrs.contains i = false := by rfl) : XD P n ops Q (i :: rest) J ⟨M, H⟩ e := by
  refine X_mut hi rfl hg (fun a w ha hw => ?_) hnw
  have hb := hw.own b o hb
  obtain ⟨o', hr, ho'⟩ := run_mapUpdate_id (P := P) (x := p) (v := v) hK ht hb ho
  unfold Oper.does
  have : (execOp a.eval ⟨none, .mapUpdate t x y z, ty, pos, af, gd⟩).run P w = .ok .skip { w with heap := w.heap.setIfInBounds b o' } := by
    simp only [execOp, ha.ev hx, ha.ev hy, ha.ev hz]
    rw [run_bind_ok hr]; rfl
  rw [this]
  obtain ⟨H2, hH, hk⟩ := hk o' ho'
  exact ⟨⟨M, H2⟩, e, St.upd hw hH (setIn_self hb) (fun c hc q hq => by rw [setIn_other hc]; exact hq) (SameIO.refl _), ha, hk⟩
theorem X_rangeP {t el : TypeId} {x : Operand} {b : Nat} {o : Obj} {l : PM α} (hi : ops[i]? = some ⟨some d, .range t x, ty, pos, af, gd⟩) (hg : want ops e gd = some true)
    (hx : ev e x = some (.map (some b))) (ht : P.underlying t = some (.map k el)) (hb : (b, o) ∈ H) (ho : pmO en o l) (hd : Nat.ble (d + 1) n.sz = true)
    (hk : ∀ r oi, itO en b oi o l [] → XD P n ops Q rest (St M ((r, oi) :: H)) ⟨M, (r, oi) :: H⟩ ((d, .pointer (some ⟨r, 0, Option.none⟩)) :: e)) (hnw : n.wrs.contains i = false := by rfl) : XD P n ops Q (i :: rest) J ⟨M, H⟩ e := by
  refine X_mut hi rfl hg (fun a w ha hw => ?_) hnw
  have hb' := hw.own b o hb
  obtain ⟨es, c, rfl, hit⟩ := itO.start (b := b) ho
  unfold Oper.does
  have : (execOp a.eval ⟨some d, .range t x, ty, pos, af, gd⟩).run P w = .ok (.value (.pointer (some ⟨w.heap.size, 0, Option.none⟩))) (w.alloc (.mapIter (some b) c #[] c)) := by
    simp only [execOp, ha.ev hx]
    refine run_v ?_
    unfold Instr.range
    rw [run_bind_ok (run_underlying' ht)]
    simp only []
    rw [run_bind_ok (run_getObj' hb')]
    rfl
  rw [this]
  exact ⟨⟨M, (w.heap.size, _) :: H⟩, _, St.alloc hw _, ha.put hd _, hk _ _ hit⟩
theorem X_nextP {x : Operand} {b r : Nat} {oi om : Obj} {l sv : PM α} (hi : ops[i]? = some ⟨some d, .next x false, ty, pos, af, gd⟩) (hg : want ops e gd = some true)
    (hx : ev e x = some (.pointer (some ⟨r, 0, Option.none⟩))) (hr : (r, oi) ∈ H) (hb : (b, om) ∈ H) (hit : itO en b oi om l sv) (hd : Nat.ble (d + 1) n.sz = true)
    (hk1 : ∀ p oi', p ∈ l → itO en b oi' om l (sv ++ [p]) → ∃ H2, Upd r oi oi' H H2 ∧ XD P n ops Q rest (St M H2) ⟨M, H2⟩ ((d, .tuple #[.bool true, keyV p.1, en p.2]) :: e))
    (hk0 : sv.Perm l → XD P n ops Q rest (St M H) ⟨M, H⟩ ((d, .tuple #[.bool false]) :: e)) (hnw : n.wrs.contains i = false := by rfl) : XD P n ops Q (i :: rest) J ⟨M, H⟩ e := by
  refine X_mut hi rfl hg (fun a w ha hw => ?_) hnw
  have hr' := hw.own r oi hr
  have hb' := hw.own b om hb
  have hit' := hit
  obtain ⟨es, c, sn, js, e1, hkv, hlt, hnd, e2, hjn, hs, hf⟩ := hit'
  rw [e2] at hr'
  rw [e1] at hb'
  unfold Oper.does
  rcases run_next_at (P := P) w ty r b c c sn es c hr' hb' hlt (Nat.le_refl _) with ⟨h0, hrun⟩ | ⟨y, hy, w1, hw1, hrun⟩
  · have : (execOp a.eval ⟨some d, .next x false, ty, pos, af, gd⟩).run P w = .ok (.value (.tuple #[.bool false])) w := by
      simp only [execOp, ha.ev hx]
      exact run_v hrun
    rw [this]
    exact ⟨⟨M, H⟩, _, hw, ha.put hd _, hk0 (hit.done e1 e2 h0)⟩
  · obtain ⟨p, hp, g1, g2, g3⟩ := hit.step e1 e2 hy
    rw [g1, g2] at hrun
    have : (execOp a.eval ⟨some d, .next x false, ty, pos, af, gd⟩).run P w = .ok (.value (.tuple #[.bool true, keyV p.1, en p.2])) { w1 with heap := w1.heap.setIfInBounds r (.mapIter (some b) c (sn.push y.born) c) } := by
      simp only [execOp, ha.ev hx]
      exact run_v hrun
    rw [this]
    obtain ⟨H2, hH, hk⟩ := hk1 p _ hp g3
    have hst : St M H w1 := by
      rcases hw1 with rfl | rfl
      · exact hw
      · exact St.drawn _ hw
    have hr1 := hst.own r oi hr
    exact ⟨⟨M, H2⟩, _, St.upd hst hH (setIn_self hr1) (fun c hc q hq => by rw [setIn_other hc]; exact hq) (SameIO.refl _), ha.put hd _, hk⟩
theorem X_entryP {x : Operand} {b r : Nat} {oi om : Obj} {l sv : PM α} {p : Plc × α} {MJ : Mem} {HJ : Hp} (hi : ops[i]? = some ⟨some d, .entry x, ty, pos, af, gd⟩) (hg : want ops e gd = some true)
    (hx : ev e x = some (.pointer (some ⟨r, 0, Option.none⟩))) (hr : (r, oi) ∈ HJ) (hb : (b, om) ∈ HJ) (hit : itO en b oi om l (sv ++ [p])) (hd : Nat.ble (d + 1) n.sz = true)
    (hk : XD P n ops Q rest (St MJ HJ) A ((d, .tuple #[keyV p.1, en p.2]) :: e)) : XD P n ops Q (i :: rest) (St MJ HJ) A e :=
  X_read hi rfl hg (fun a' w ha hw => runs_of (by
    obtain ⟨es, c, sn, y, rfl, rfl, g1, g2, g3, g4⟩ := hit.last
    simp only [execOp, ha.ev hx]
    have := run_entry_at (P := P) w r b c sn es c y (hw.own _ _ hr) (hw.own _ _ hb) g1 g2
    rw [g3, g4] at this
    exact run_v this)) (fun a ha => ha.put hd _) hk
end
end Go.Esp
/-
  Stores: rows of cells by keys, in plain Lean.
-/
set_option linter.unusedSimpArgs false
set_option linter.unusedVariables false
set_option linter.unnecessarySimpa false
namespace Go.Esp
structure Hd where
  key : Plc
  cell : Cel
  deriving DecidableEq
def HeldV.pl (h : HeldV) : Hd := ⟨h.key, h.cell.pl⟩
def pls (l : List HeldV) : List Hd := l.map HeldV.pl
theorem pls_len (l : List HeldV) : (pls l).length = l.length := List.length_map ..
def StOk (s : List Hd) : Prop := (∀ h ∈ s, IsCel h.cell) ∧ s.Pairwise (fun x y => LessP x.key y.key)
instance (s : List Hd) : Decidable (StOk s) := by unfold StOk; exact inferInstance
def IsSt (s : List Hd) : Prop := s.length ≤ 2000 ∧ StOk s
instance (s : List Hd) : Decidable (IsSt s) := by unfold IsSt; exact inferInstance
theorem st_take {s : List Hd} {k : Nat} (hk : k < s.length) : StOk (s.take (k + 1)) ↔ StOk (s.take k) ∧ IsCel s[k].cell ∧ ∀ h : 0 < k, LessP (s[k - 1]'(by omega)).key s[k].key := by
  have e : s.take (k + 1) = s.take k ++ [s[k]] := by rw [List.take_add_one, List.getElem?_eq_getElem hk]; rfl
  rw [e]
  unfold StOk
  simp only [List.mem_append, List.mem_singleton, List.pairwise_append, List.pairwise_singleton]
  constructor
  · rintro ⟨h1, h2, _, h3⟩
    refine ⟨⟨fun m hm => h1 m (.inl hm), h2⟩, h1 _ (.inr rfl), fun h => h3 _ ?_ _ rfl⟩
    rw [List.mem_take_iff_getElem]
    exact ⟨k - 1, by omega, rfl⟩
  · rintro ⟨⟨h1, h2⟩, h3, h4⟩
    refine ⟨fun m hm => ?_, h2, trivial, fun m hm q hq => ?_⟩
    · rcases hm with hm | rfl
      · exact h1 m hm
      · exact h3
    · subst hq
      rw [List.mem_take_iff_getElem] at hm
      obtain ⟨j, hj, rfl⟩ := hm
      have hjk : j < k := by omega
      have hlast := h4 (by omega)
      rcases Nat.lt_or_ge j (k - 1) with h | h
      · have := (List.pairwise_iff_getElem.1 h2) j (k - 1) (by simp; omega) (by simp; omega) h
        simp only [List.getElem_take] at this
        exact Nat.lt_trans this hlast
      · have : j = k - 1 := by omega
        subst this; exact hlast
theorem st_pre {s : List Hd} (h : StOk s) (k : Nat) : StOk (s.take k) := ⟨fun m hm => h.1 m (List.mem_of_mem_take hm), h.2.sublist (List.take_sublist k s)⟩
theorem less_irr {a : Plc} : ¬ LessP a a := Nat.lt_irrefl _
theorem less_tri (a b : Plc) : LessP a b ∨ a = b ∨ LessP b a := by
  rcases Nat.lt_trichotomy a.toNat b.toNat with h | h | h
  · exact .inl h
  · exact .inr (.inl (BitVec.eq_of_toNat_eq h))
  · exact .inr (.inr h)
/-! A key's cell. -/
def findS (s : List Hd) (k : Plc) : Option Cel := (s.find? fun h => decide (h.key = k)).map Hd.cell
theorem findS_nil (k : Plc) : findS [] k = none := rfl
theorem findS_cons (h : Hd) (s : List Hd) (k : Plc) : findS (h :: s) k = if h.key = k then some h.cell else findS s k := by
  unfold findS
  by_cases e : h.key = k
  · simp [e]
  · simp [e]
def findP (s : List Hd) (k : Plc) : Cel × Bool := match findS s k with
  | some c => (c, true)
  | none => (Cel.zero, false)
def findX (l : List HeldV) (k : Plc) : CellV × Bool := match l.find? fun h => decide (h.key = k) with
  | some h => (h.cell, true)
  | none => (CellV.zero, false)
def findXv (r : CellV × Bool) : Value := .tuple #[r.1.enc, .bool r.2]
theorem findX_pl (l : List HeldV) (k : Plc) : ((findX l k).1.pl, (findX l k).2) = findP (pls l) k := by
  unfold findX findP findS pls
  induction l with
  | nil => rfl
  | cons h l ih =>
    by_cases e : h.key = k
    · simp [HeldV.pl, e]
    · simpa [HeldV.pl, e] using ih
theorem findX_mem {l : List HeldV} {k : Plc} (h : (findX l k).2 = true) : ∃ x ∈ l, x.key = k ∧ x.cell = (findX l k).1 := by
  unfold findX at h ⊢
  split at h
  · rename_i x hx
    exact ⟨x, List.mem_of_find?_eq_some hx, by have := List.find?_some hx; simpa using this, rfl⟩
  · cases h
theorem findX_first {l : List HeldV} {c : Plc} {k : Nat} (hk : k < l.length) (h1 : ∀ j (h2 : j < l.length), j < k → ¬ l[j].key = c) (h3 : l[k].key = c) : findX l c = (l[k].cell, true) := by
  unfold findX
  rw [show (l.find? fun h => decide (h.key = c)) = some l[k] from List.find?_eq_some_iff_getElem.2 ⟨by simpa using h3, k, hk, rfl, fun j hj => by simpa using h1 j (by omega) hj⟩]
theorem findX_none {l : List HeldV} {c : Plc} (h : ∀ j (h2 : j < l.length), ¬ l[j].key = c) : findX l c = (CellV.zero, false) := by
  unfold findX
  rw [show (l.find? fun h => decide (h.key = c)) = none from List.find?_eq_none.2 (fun x hx => by
    obtain ⟨j, hj, rfl⟩ := List.getElem_of_mem hx
    simpa using h j hj)]
theorem findX_neg {l : List HeldV} {c : Plc} (h : idxF (fun x : HeldV => decide (x.key = c)) l < 0) : findX l c = (CellV.zero, false) := by
  refine findX_none fun j hj e => ?_
  unfold idxF at h
  rw [if_pos (List.any_eq_true.2 ⟨_, List.getElem_mem hj, by simpa using e⟩)] at h
  omega
theorem findX_at {l : List HeldV} {c : Plc} (h : ¬ idxF (fun x : HeldV => decide (x.key = c)) l < 0) : ∃ i : Nat, idxF (fun x : HeldV => decide (x.key = c)) l = (i : Int) ∧ ∃ hi : i < l.length, findX l c = (l[i].cell, true) := by
  unfold idxF at h ⊢
  split
  · rename_i ha
    refine ⟨_, rfl, List.findIdx_lt_length_of_exists (by simpa using ha), ?_⟩
    have hlt : l.findIdx (fun x : HeldV => decide (x.key = c)) < l.length := List.findIdx_lt_length_of_exists (by simpa using ha)
    refine findX_first hlt (fun j h2 hj => ?_) ?_
    · have := List.not_of_lt_findIdx hj; simpa using this
    · have := List.findIdx_getElem (w := hlt); simpa using this
  · rename_i ha
    rw [if_neg ha] at h; omega
theorem findS_none {s : List Hd} {k : Plc} : findS s k = none ↔ ∀ h ∈ s, h.key ≠ k := by
  unfold findS
  simp [List.find?_eq_none]
theorem findS_some {s : List Hd} {k : Plc} {c : Cel} (h : findS s k = some c) : ⟨k, c⟩ ∈ s := by
  unfold findS at h
  obtain ⟨x, hx, rfl⟩ := Option.map_eq_some_iff.1 h
  have h1 := List.mem_of_find?_eq_some hx
  have h2 : x.key = k := by have := List.find?_some hx; simpa using this
  subst h2; exact h1
theorem keys_nodup {s : List Hd} (h : s.Pairwise (fun x y => LessP x.key y.key)) : (s.map Hd.key).Nodup := by
  rw [List.Nodup, List.pairwise_map]
  exact h.imp fun hl e => by rw [e] at hl; exact less_irr hl
theorem findS_mem {s : List Hd} (hn : (s.map Hd.key).Nodup) {x : Hd} (hx : x ∈ s) : findS s x.key = some x.cell := by
  induction s with
  | nil => cases hx
  | cons h s ih =>
    rw [findS_cons]
    simp only [List.map_cons, List.nodup_cons] at hn
    rcases List.mem_cons.1 hx with rfl | hx
    · rw [if_pos rfl]
    · rw [if_neg (fun e => hn.1 (by rw [e]; exact List.mem_map_of_mem hx))]
      exact ih hn.2 hx
/-! A cell put at a key. -/
def withS : List Hd → Plc → Cel → List Hd
  | [], k, c => [⟨k, c⟩]
  | h :: r, k, c => if LessP h.key k then h :: withS r k c else if h.key = k then ⟨k, c⟩ :: r else ⟨k, c⟩ :: h :: r
theorem withS_mem {s : List Hd} {k : Plc} {c : Cel} : ∀ {x : Hd}, x ∈ withS s k c → x = ⟨k, c⟩ ∨ x ∈ s := by
  induction s with
  | nil => intro x hx; simp [withS] at hx; exact .inl hx
  | cons h s ih =>
    intro x hx
    unfold withS at hx
    split at hx
    · rcases List.mem_cons.1 hx with rfl | hx
      · exact .inr (.head _)
      · rcases ih hx with h1 | h1
        · exact .inl h1
        · exact .inr (.tail _ h1)
    · split at hx
      · rcases List.mem_cons.1 hx with h1 | h1
        · exact .inl h1
        · exact .inr (.tail _ h1)
      · rcases List.mem_cons.1 hx with h1 | h1
        · exact .inl h1
        · exact .inr h1
theorem withS_ok {s : List Hd} (h : StOk s) {k : Plc} {c : Cel} (hc : IsCel c) : StOk (withS s k c) := by
  refine ⟨fun x hx => ?_, ?_⟩
  · rcases withS_mem hx with rfl | hx
    · exact hc
    · exact h.1 x hx
  · have hp := h.2
    clear h
    induction s with
    | nil => exact List.pairwise_singleton _ _
    | cons h s ih =>
      have h1 := List.pairwise_cons.1 hp
      unfold withS
      split
      · rename_i hl
        refine List.pairwise_cons.2 ⟨fun x hx => ?_, ih h1.2⟩
        rcases withS_mem hx with rfl | hx
        · exact hl
        · exact h1.1 x hx
      · rename_i hl
        split
        · rename_i he
          exact List.pairwise_cons.2 ⟨fun x hx => by rw [← he]; exact h1.1 x hx, h1.2⟩
        · rename_i he
          have hk : LessP k h.key := by
            rcases less_tri h.key k with g | g | g
            · exact absurd g hl
            · exact absurd g he
            · exact g
          refine List.pairwise_cons.2 ⟨fun x hx => ?_, hp⟩
          rcases List.mem_cons.1 hx with rfl | hx
          · exact hk
          · exact Nat.lt_trans hk (h1.1 x hx)
theorem withS_len (s : List Hd) (k : Plc) (c : Cel) : s.length ≤ (withS s k c).length ∧ (withS s k c).length ≤ s.length + 1 := by
  induction s with
  | nil => simp [withS]
  | cons h s ih =>
    unfold withS
    split
    · simp only [List.length_cons]; omega
    · split <;> simp only [List.length_cons] <;> omega
theorem findS_with {s : List Hd} (hs : s.Pairwise (fun x y => LessP x.key y.key)) (k : Plc) (c : Cel) (q : Plc) : findS (withS s k c) q = if q = k then some c else findS s q := by
  induction s with
  | nil =>
    unfold withS
    rw [findS_cons, findS_nil]
    by_cases e : q = k
    · subst e; simp
    · rw [if_neg (fun h => e h.symm), if_neg e]
  | cons h s ih =>
    have h1 := List.pairwise_cons.1 hs
    unfold withS
    split
    · rename_i hl
      rw [findS_cons, findS_cons, ih h1.2]
      by_cases e : h.key = q
      · rw [if_pos e, if_pos e, if_neg (fun e2 => by rw [e, e2] at hl; exact less_irr hl)]
      · rw [if_neg e, if_neg e]
    · rename_i hl
      split
      · rename_i he
        rw [findS_cons, findS_cons]
        by_cases e : q = k
        · subst e; simp
        · rw [if_neg (fun h => e h.symm), if_neg e, if_neg (fun h2 => e (by rw [← h2, he]))]
      · rename_i he
        rw [findS_cons]
        by_cases e : q = k
        · subst e; simp
        · rw [if_neg (fun h => e h.symm), if_neg e]
/-- Where it is put. -/
theorem withS_at {s : List Hd} {k : Plc} {c : Cel} : ∀ {a : Nat}, a ≤ s.length → (∀ j (h : j < s.length), j < a → LessP s[j].key k) → (∀ h : a < s.length, ¬ LessP s[a].key k) →
    withS s k c = s.take a ++ ⟨k, c⟩ :: s.drop (if (s[a]?).map Hd.key = some k then a + 1 else a) := by
  induction s with
  | nil =>
    intro a ha _ _
    obtain rfl : a = 0 := by simpa using ha
    simp [withS]
  | cons h s ih =>
    intro a ha h1 h2
    cases a with
    | zero =>
      have h3 := h2 (by simp)
      simp only [List.getElem_cons_zero] at h3
      unfold withS
      rw [if_neg h3]
      by_cases e : h.key = k
      · rw [if_pos e]; simp [e]
      · rw [if_neg e]; simp [e]
    | succ a =>
      have h3 := h1 0 (by simp) (by omega)
      simp only [List.getElem_cons_zero] at h3
      unfold withS
      rw [if_pos h3, ih (by simpa using ha) (fun j hj hja => h1 (j + 1) (by simpa using hj) (by omega)) (fun hj => h2 (by simpa using hj))]
      simp only [List.getElem?_cons_succ, List.take_succ_cons, List.cons_append]
      split <;> simp
theorem withS_end {s : List Hd} {k : Plc} {c : Cel} (h : ∀ x ∈ s, LessP x.key k) : withS s k c = s ++ [⟨k, c⟩] := by
  induction s with
  | nil => rfl
  | cons x s ih =>
    unfold withS
    rw [if_pos (h x (.head _)), ih (fun y hy => h y (.tail _ hy))]
    rfl
/-! Stores blended. -/
def blendS (two : Cel → Cel → Cel) (s : List Hd) (h : Hd) : List Hd := withS s h.key (match findS s h.key with
  | some c => two c h.cell
  | none => h.cell)
def lastT (a b : Cel) : Cel := b
def mergedT (a b : Cel) : Cel := (mergeR a b).1
theorem mergedT_ok {a b : Cel} (ha : IsCel a) (hb : IsCel b) : IsCel (mergedT a b) := by
  unfold mergedT mergeR
  rw [if_pos ⟨ha, hb⟩]
  exact mergeC_ok ha hb
/-- What keeps cells right. -/
def Keeps2 (two : Cel → Cel → Cel) : Prop := ∀ a b, IsCel a → IsCel b → IsCel (two a b)
theorem lastT_keeps : Keeps2 lastT := fun _ _ _ hb => hb
theorem mergedT_keeps : Keeps2 mergedT := fun _ _ => mergedT_ok
theorem blendS_ok {two : Cel → Cel → Cel} (ht : Keeps2 two) {s : List Hd} (h : StOk s) {x : Hd} (hx : IsCel x.cell) : StOk (blendS two s x) := by
  refine withS_ok h ?_
  split
  · rename_i c hc; exact ht _ _ (h.1 _ (findS_some hc)) hx
  · exact hx
theorem foldB_ok {two : Cel → Cel → Cel} (ht : Keeps2 two) : ∀ {l s : List Hd}, StOk s → (∀ x ∈ l, IsCel x.cell) → StOk (l.foldl (blendS two) s)
  | [], s, h, _ => h
  | x :: l, s, h, hl => by
    rw [List.foldl_cons]
    exact foldB_ok ht (blendS_ok ht h (hl x (.head _))) fun y hy => hl y (.tail _ hy)
theorem foldB_len {two : Cel → Cel → Cel} : ∀ {l s : List Hd}, s.length ≤ (l.foldl (blendS two) s).length ∧ (l.foldl (blendS two) s).length ≤ s.length + l.length
  | [], s => by simp
  | x :: l, s => by
    have h1 := foldB_len (two := two) (l := l) (s := blendS two s x)
    have h2 := withS_len s x.key (match findS s x.key with | some c => two c x.cell | none => x.cell)
    simp only [List.foldl_cons, List.length_cons]
    unfold blendS at h1 ⊢
    omega
theorem foldB_step {two : Cel → Cel → Cel} {l s : List Hd} {k : Nat} (hk : k < l.length) : (l.take (k + 1)).foldl (blendS two) s = blendS two ((l.take k).foldl (blendS two) s) l[k] := by
  rw [List.take_add_one, List.getElem?_eq_getElem hk, List.foldl_append]; rfl
theorem findS_blend {two : Cel → Cel → Cel} {s : List Hd} (hs : StOk s) (x : Hd) {q : Plc} (hq : q ≠ x.key) : findS (blendS two s x) q = findS s q := by
  unfold blendS
  rw [findS_with hs.2, if_neg hq]
theorem findS_fold {two : Cel → Cel → Cel} (ht : Keeps2 two) : ∀ {l s : List Hd}, StOk s → (∀ x ∈ l, IsCel x.cell) → ∀ {q : Plc}, (∀ x ∈ l, x.key ≠ q) → findS (l.foldl (blendS two) s) q = findS s q
  | [], _, _, _, _, _ => rfl
  | x :: l, s, h, hl, q, hq => by
    rw [List.foldl_cons, findS_fold ht (blendS_ok ht h (hl x (.head _))) (fun y hy => hl y (.tail _ hy)) (fun y hy => hq y (.tail _ hy)), findS_blend h x (fun e => hq x (.head _) e.symm)]
/-- A right store, blended into none, stays. -/
theorem foldB_self {two : Cel → Cel → Cel} : ∀ {l s : List Hd}, (s ++ l).Pairwise (fun x y => LessP x.key y.key) → l.foldl (blendS two) s = s ++ l
  | [], s, _ => by simp
  | x :: l, s, h => by
    have h1 := List.pairwise_append.1 h
    have hx : ∀ y ∈ s, LessP y.key x.key := fun y hy => h1.2.2 y hy x (.head _)
    have hb : blendS two s x = s ++ [x] := by
      unfold blendS
      rw [withS_end hx, (findS_none).2 (fun y hy e => by have := hx y hy; rw [e] at this; exact less_irr this)]
    rw [List.foldl_cons, hb, foldB_self (by simpa using h)]
    simp
theorem foldB_nil {two : Cel → Cel → Cel} {l : List Hd} (h : StOk l) : l.foldl (blendS two) [] = l := by
  rw [foldB_self (by simpa using h.2)]; rfl
def putR (s : List Hd) (k : Plc) (c : Cel) : List Hd × Int := if IsSt s ∧ IsCel c then (if 2000 < (withS s k c).length then ([], 12) else (withS s k c, 0)) else ([], 1)
def blendR (s t : List Hd) : List Hd × Int := if IsSt s ∧ IsSt t then (if 2000 < (t.foldl (blendS mergedT) s).length then ([], 12) else (t.foldl (blendS mergedT) s, 0)) else ([], 1)
/-! Two rows that rise, with the same cells, are the same. -/
theorem sorted_eq : ∀ {a b : List Hd}, a.Perm b → a.Pairwise (fun x y => LessP x.key y.key) → b.Pairwise (fun x y => LessP x.key y.key) → a = b
  | [], b, hp, _, _ => (List.nil_perm.1 hp).symm
  | x :: a, [], hp, _, _ => absurd (List.perm_nil.1 hp) (by simp)
  | x :: a, y :: b, hp, ha, hb => by
    have h1 := List.pairwise_cons.1 ha
    have h2 := List.pairwise_cons.1 hb
    have e : x = y := by
      rcases List.mem_cons.1 (hp.mem_iff.1 (.head _)) with e | hx
      · exact e
      · rcases List.mem_cons.1 (hp.mem_iff.2 (.head _)) with e | hy
        · exact e.symm
        · exact absurd (Nat.lt_trans (h2.1 x hx) (h1.1 y hy)) (Nat.lt_irrefl _)
    subst e
    rw [sorted_eq ((List.perm_cons x).1 hp) h1.2 h2.2]
/-! Maps of cells. -/
def mpl (m : PM CellV) : List Hd := m.map fun p => ⟨p.1, p.2.pl⟩
theorem mpl_get {m : PM CellV} {k : Plc} : (pmGet m k).map CellV.pl = findS (mpl m) k := by
  induction m with
  | nil => rfl
  | cons p m ih =>
    obtain ⟨j, v⟩ := p
    show _ = findS (⟨j, v.pl⟩ :: mpl m) k
    rw [findS_cons]
    unfold pmGet
    by_cases e : k = j
    · subst e; simp
    · rw [if_neg e, if_neg (fun h => e h.symm)]; exact ih
theorem findS_perm {a b : List Hd} (hp : a.Perm b) (hn : (a.map Hd.key).Nodup) (k : Plc) : findS a k = findS b k := by
  have hb : (b.map Hd.key).Nodup := (hp.map _).nodup_iff.1 hn
  cases h : findS b k with
  | none => exact findS_none.2 fun x hx => findS_none.1 h x (hp.mem_iff.1 hx)
  | some c => exact findS_mem hn (x := ⟨k, c⟩) (hp.mem_iff.2 (findS_some h))
theorem mpl_put_keys {m : PM CellV} {k : Plc} {c : CellV} (hn : ((mpl m).map Hd.key).Nodup) : ((mpl (pmPut m k c)).map Hd.key).Nodup ∧ ∀ x, x ∈ (mpl (pmPut m k c)).map Hd.key ↔ x = k ∨ x ∈ (mpl m).map Hd.key := by
  induction m with
  | nil => simp [pmPut, mpl]
  | cons p m ih =>
    obtain ⟨j, v⟩ := p
    have hn' : j ∉ (mpl m).map Hd.key ∧ ((mpl m).map Hd.key).Nodup := by simpa [mpl] using hn
    obtain ⟨g1, g2⟩ := ih hn'.2
    unfold pmPut
    by_cases e : k = j
    · subst e
      rw [if_pos rfl]
      exact ⟨by simpa [mpl] using hn, fun x => by simp [mpl]⟩
    · rw [if_neg e]
      refine ⟨?_, fun x => ?_⟩
      · show (j :: (mpl (pmPut m k c)).map Hd.key).Nodup
        rw [List.nodup_cons]
        exact ⟨fun h => by rcases (g2 j).1 h with h | h; exact e h.symm; exact hn'.1 h, g1⟩
      · show x ∈ j :: (mpl (pmPut m k c)).map Hd.key ↔ x = k ∨ x ∈ j :: (mpl m).map Hd.key
        rw [List.mem_cons, List.mem_cons, g2 x]
        constructor
        · rintro (h | h | h)
          · exact .inr (.inl h)
          · exact .inl h
          · exact .inr (.inr h)
        · rintro (h | h | h)
          · exact .inr (.inl h)
          · exact .inl h
          · exact .inr (.inr h)
theorem mpl_find_put {m : PM CellV} {k q : Plc} {c : CellV} : findS (mpl (pmPut m k c)) q = if q = k then some c.pl else findS (mpl m) q := by
  induction m with
  | nil =>
    show findS [⟨k, c.pl⟩] q = _
    rw [findS_cons]
    by_cases e : q = k
    · subst e; simp
    · rw [if_neg (fun h => e h.symm), if_neg e]; rfl
  | cons p m ih =>
    obtain ⟨j, v⟩ := p
    unfold pmPut
    by_cases e : k = j
    · subst e
      rw [if_pos rfl]
      show findS (⟨k, c.pl⟩ :: mpl m) q = if q = k then _ else findS (⟨k, v.pl⟩ :: mpl m) q
      rw [findS_cons, findS_cons]
      by_cases e2 : q = k
      · subst e2; simp
      · rw [if_neg (fun h => e2 h.symm), if_neg e2, if_neg (fun h => e2 h.symm)]
    · rw [if_neg e]
      show findS (⟨j, v.pl⟩ :: mpl (pmPut m k c)) q = if q = k then _ else findS (⟨j, v.pl⟩ :: mpl m) q
      rw [findS_cons, findS_cons, ih]
      by_cases e2 : j = q
      · rw [if_pos e2, if_pos e2, if_neg (fun h => e (by rw [← h, e2]))]
      · rw [if_neg e2, if_neg e2]
/-- Rows with the same cells at all keys hold the same. -/
theorem perm_of_find {a b : List Hd} (ha : (a.map Hd.key).Nodup) (hb : (b.map Hd.key).Nodup) (h : ∀ q, findS a q = findS b q) : a.Perm b := by
  have na : a.Nodup := (List.pairwise_map.1 ha).imp fun hne e => hne (by rw [e])
  have nb : b.Nodup := (List.pairwise_map.1 hb).imp fun hne e => hne (by rw [e])
  refine (List.perm_ext_iff_of_nodup na nb).2 fun x => ?_
  constructor
  · intro hx
    have h1 := findS_mem ha hx
    rw [h] at h1
    exact findS_some h1
  · intro hx
    have h1 := findS_mem hb hx
    rw [← h] at h1
    exact findS_some h1
theorem mpl_put {m : PM CellV} {s : List Hd} (hs : s.Pairwise (fun x y => LessP x.key y.key)) (hp : (mpl m).Perm s) {k : Plc} {c : CellV} (hc : StOk (withS s k c.pl)) : (mpl (pmPut m k c)).Perm (withS s k c.pl) := by
  have hn : ((mpl m).map Hd.key).Nodup := (hp.map _).nodup_iff.2 (keys_nodup hs)
  refine perm_of_find (mpl_put_keys hn).1 (keys_nodup hc.2) fun q => ?_
  rw [mpl_find_put, findS_with hs, findS_perm hp hn]
/-- The order of a row. -/
def lessH (a b : HeldV) : Int := if LessP a.key b.key then -1 else 1
def ofS (two : Cel → Cel → Cel) (all : List (List Hd)) : List Hd := all.flatten.foldl (blendS two) []
theorem ofS_step {two : Cel → Cel → Cel} {all : List (List Hd)} {k : Nat} (hk : k < all.length) : ofS two (all.take (k + 1)) = all[k].foldl (blendS two) (ofS two (all.take k)) := by
  unfold ofS
  rw [List.take_add_one, List.getElem?_eq_getElem hk, List.flatten_append, List.foldl_append]
  simp
theorem ofS_ok {two : Cel → Cel → Cel} (ht : Keeps2 two) {all : List (List Hd)} (h : ∀ s ∈ all, ∀ x ∈ s, IsCel x.cell) : StOk (ofS two all) := by
  refine foldB_ok ht ⟨fun x hx => (by cases hx), .nil⟩ fun x hx => ?_
  obtain ⟨s, hs, hxs⟩ := List.mem_flatten.1 hx
  exact h s hs x hxs
/-- A function that blends two cells. -/
def TwoOk (P : Program) (g : FuncId) (two : Cel → Cel → Cel) : Prop := ∀ (M : Mem) (a b : CellV), CellV.ok M a → CellV.ok M b → Fn P g [a.enc, b.enc] M (fun M' v => ∃ c : CellV, v = c.enc ∧ c.pl = two a.pl b.pl ∧ CellV.ok M' c)
/-- What a map becomes by one more cell. -/
theorem blend_map {two : Cel → Cel → Cel} (ht : Keeps2 two) {m : PM CellV} {s : List Hd} {k : Plc} {c c' : CellV} (hs : StOk s) (hp : (mpl m).Perm s) (hc : IsCel c.pl) (he : c'.pl = match findS (mpl m) k with | some x => two x c.pl | none => c.pl) : (mpl (pmPut m k c')).Perm (blendS two s ⟨k, c.pl⟩) := by
  have hn : ((mpl m).map Hd.key).Nodup := (hp.map _).nodup_iff.2 (keys_nodup hs.2)
  rw [findS_perm hp hn] at he
  have hb := blendS_ok ht hs (x := ⟨k, c.pl⟩) hc
  unfold blendS at hb ⊢
  simp only at hb ⊢
  have hb' : StOk (withS s k c'.pl) := by rw [he]; exact hb
  have := mpl_put hs.2 hp (c := c') hb'
  rw [he] at this
  exact this
theorem put_mem {α : Type} {m : PM α} {k : Plc} {c : α} {p : Plc × α} (h : p ∈ pmPut m k c) : p = (k, c) ∨ p ∈ m := by
  induction m with
  | nil => simp [pmPut] at h; exact .inl h
  | cons q m ih =>
    obtain ⟨j, v⟩ := q
    unfold pmPut at h
    split at h
    · rename_i e; subst e
      rcases List.mem_cons.1 h with h1 | h1
      · exact .inl h1
      · exact .inr (.tail _ h1)
    · rcases List.mem_cons.1 h with h1 | h1
      · exact .inr (h1 ▸ .head _)
      · rcases ih h1 with h2 | h2
        · exact .inl h2
        · exact .inr (.tail _ h2)
def mkH (p : Plc × CellV) : HeldV := ⟨p.1, p.2⟩
theorem mkH_pl (l : PM CellV) : pls (l.map mkH) = mpl l := by unfold pls mpl; rw [List.map_map]; rfl
theorem row_sorted {l : List HeldV} {S : List Hd} (h : l.Pairwise (fun x y => ¬ lessH y x < 0)) (hp : (pls l).Perm S) (hS : S.Pairwise (fun x y => LessP x.key y.key)) : pls l = S := by
  refine sorted_eq hp ?_ hS
  have hn : ((pls l).map Hd.key).Nodup := (hp.map _).nodup_iff.2 (keys_nodup hS)
  rw [List.pairwise_iff_getElem]
  intro i j hi hj hij
  have hi' : i < l.length := by rw [pls_len] at hi; exact hi
  have hj' : j < l.length := by rw [pls_len] at hj; exact hj
  have h1 := (List.pairwise_iff_getElem.1 h) i j hi' hj' hij
  have h2 := (List.pairwise_iff_getElem.1 hn) i j (by simpa using hi) (by simpa using hj) hij
  simp only [List.getElem_map] at h2
  have e1 : (pls l)[i] = HeldV.pl l[i] := by simp [pls]
  have e2 : (pls l)[j] = HeldV.pl l[j] := by simp [pls]
  rw [e1, e2] at h2 ⊢
  rcases less_tri (HeldV.pl l[i]).key (HeldV.pl l[j]).key with h3 | h3 | h3
  · exact h3
  · exact absurd h3 h2
  · exfalso
    apply h1
    unfold lessH
    rw [if_pos (show LessP l[j].key l[i].key from h3)]
    decide
def fullR (S : List Hd) : List Hd × Int := if 2000 < S.length then ([], 12) else (S, 0)
/-- A store handed back, and an error. -/
def StE (M : Mem) (v : Value) (r : List Hd × Int) : Prop := ∃ s : Sl HeldV, v = .tuple #[s.val, .int .i64 r.2] ∧ pls s.l = r.1 ∧ SlK M HeldV.segs 24 s ∧ ∀ h ∈ s.l, HeldV.ok M h
theorem StE.nil {M : Mem} {e : Int} : StE M (.tuple #[.slice none 0 0, .int .i64 e]) ([], e) := ⟨⟨none, 0, []⟩, rfl, rfl, SlK.nil, fun h hh => by cases hh⟩
theorem put_of {s : List Hd} (h : StOk s) (k : Plc) (c : Cel) : ofS lastT [s, [⟨k, c⟩]] = withS s k c := by
  unfold ofS
  simp only [List.flatten_cons, List.flatten_nil, List.append_nil, List.foldl_append]
  rw [foldB_nil h]
  show blendS lastT s ⟨k, c⟩ = _
  unfold blendS lastT
  cases findS s k <;> rfl
theorem blend_of {s : List Hd} (h : StOk s) (t : List Hd) : ofS mergedT [s, t] = t.foldl (blendS mergedT) s := by
  unfold ofS
  simp only [List.flatten_cons, List.flatten_nil, List.append_nil, List.foldl_append]
  rw [foldB_nil h]
theorem putR_yes {s : List Hd} {k : Plc} {c : Cel} (h : IsSt s) (hc : IsCel c) : putR s k c = fullR (ofS lastT [s, [⟨k, c⟩]]) := by
  rw [put_of h.2]; exact if_pos ⟨h, hc⟩
theorem blendR_yes {s t : List Hd} (h : IsSt s) (ht : IsSt t) : blendR s t = fullR (ofS mergedT [s, t]) := by
  rw [blend_of h.2]; exact if_pos ⟨h, ht⟩
theorem withS_eqV {l : List HeldV} {key : Plc} {c : CellV} {a : Nat} (ha : a < l.length) (h1 : ∀ j (h : j < l.length), j < a → LessP l[j].key key) (he : l[a].key = key) : withS (pls l) key c.pl = pls (l.take a ++ ⟨key, c⟩ :: l.drop (a + 1)) := by
  have g : (pls l)[a]? = some (HeldV.pl l[a]) := by simp [pls, ha]
  rw [withS_at (a := a) (by rw [pls_len]; omega) (fun j hj hja => by
    rw [pls_len] at hj
    have e : (pls l)[j] = HeldV.pl l[j] := by simp [pls]
    rw [e]; exact h1 j hj hja) (fun hj => by
    have e : (pls l)[a] = HeldV.pl l[a] := by simp [pls]
    rw [e]; show ¬ LessP l[a].key key; rw [he]; exact less_irr), g, if_pos (by show some (HeldV.pl l[a]).key = some key; exact congrArg some he)]
  unfold pls; rw [List.map_append, List.map_cons, List.map_take, List.map_drop]; rfl
theorem withS_neV {l : List HeldV} {key : Plc} {c : CellV} {a : Nat} (ha : a ≤ l.length) (h1 : ∀ j (h : j < l.length), j < a → LessP l[j].key key) (h2 : ∀ h : a < l.length, ¬ LessP l[a].key key) (he : ∀ h : a < l.length, l[a].key ≠ key) : withS (pls l) key c.pl = pls (l.take a ++ ⟨key, c⟩ :: l.drop a) := by
  rw [withS_at (a := a) (by rw [pls_len]; omega) (fun j hj hja => by
    rw [pls_len] at hj
    have e : (pls l)[j] = HeldV.pl l[j] := by simp [pls]
    rw [e]; exact h1 j hj hja) (fun hj => by
    rw [pls_len] at hj
    have e : (pls l)[a] = HeldV.pl l[a] := by simp [pls]
    rw [e]; exact h2 hj), if_neg (by
    intro hc
    obtain ⟨x, hx, hk⟩ := Option.map_eq_some_iff.1 hc
    obtain ⟨hlt, hx⟩ := List.getElem?_eq_some_iff.1 hx
    rw [pls_len] at hlt
    have e : (pls l)[a] = HeldV.pl l[a] := by simp [pls]
    rw [e] at hx
    subst hx
    exact he hlt hk)]
  unfold pls; rw [List.map_append, List.map_cons, List.map_take, List.map_drop]; rfl
theorem blend_step {s t : List Hd} (hs : StOk s) (ht : StOk t) {k : Nat} (hk : k < t.length) : (t.take (k + 1)).foldl (blendS mergedT) s = withS ((t.take k).foldl (blendS mergedT) s) t[k].key (match findS s t[k].key with | some c => mergedT c t[k].cell | none => t[k].cell) := by
  rw [foldB_step hk]
  unfold blendS
  have e : findS ((t.take k).foldl (blendS mergedT) s) t[k].key = findS s t[k].key := by
    refine findS_fold mergedT_keeps hs (fun x hx => ht.1 x (List.mem_of_mem_take hx)) fun x hx hc => ?_
    rw [List.mem_take_iff_getElem] at hx
    obtain ⟨j, hj, rfl⟩ := hx
    have := (List.pairwise_iff_getElem.1 ht.2) j k (by omega) hk (by omega)
    rw [hc] at this
    exact less_irr this
  unfold blendS at e
  rw [e]
theorem findX_S {l : List HeldV} {k : Plc} {x : CellV} {b : Bool} (h : findX l k = (x, b)) : findS (pls l) k = if b then some x.pl else none := by
  have h1 := findX_pl l k
  rw [h] at h1
  unfold findP at h1
  cases h2 : findS (pls l) k with
  | none => rw [h2] at h1; simp only [Prod.mk.injEq] at h1; rw [h1.2]; rfl
  | some c => rw [h2] at h1; simp only [Prod.mk.injEq] at h1; rw [h1.2, h1.1]; rfl
end Go.Esp
/-
  What a store is; the cell of a key.
-/
set_option linter.unusedSimpArgs false
set_option linter.unusedVariables false
set_option linter.unnecessarySimpa false
set_option maxRecDepth 8000
set_option maxHeartbeats 1000000
namespace Go.Proofs.Ytbafnjniijodfaa
open Go.Esp
theorem F.elem31 : slOf Try.prog 31 = some (49, 24, 80) := by kernel_rfl
theorem F.foff49_0 : foff Try.prog 49 0 = some 0 := by kernel_rfl
theorem F.foff49_1 : foff Try.prog 49 1 = some 20 := by kernel_rfl
theorem F.guard33 : Try.prog.eqGuardType Try.prog.depth 33 = false := by kernel_rfl
theorem F.kinds33 : kindsOf Try.prog 20 33 = some [.i .u8, .i .u8, .i .u8, .i .u8, .i .u8, .i .u8, .i .u8, .i .u8, .i .u8, .i .u8, .i .u8, .i .u8, .i .u8, .i .u8, .i .u8, .i .u8, .i .u8, .i .u8, .i .u8, .i .u8] := by kernel_rfl
theorem F.lay49 : lay Try.prog 49 = some (true, 24) := by kernel_rfl
theorem F.ok39 : okFn Try.prog 39 = true := by kernel_rfl
theorem F.ok40 : okFn Try.prog 40 = true := by kernel_rfl
theorem F.zero49 : zeroOf Try.prog 49 = some (aggV [idSeg 0, .one (.int .u64 0), .one (.bool false), .one (.string ⟨#[]⟩), .one (.slice none 0 0)]) := by rw [idSeg0]; kernel_rfl

theorem IndexFH_rd (M : Mem) (Hin : Hp) (l : Sl HeldV) (g : FuncId) (caps : List Value) (p : HeldV → Bool) (hl : RdS M Hin l.a (l.l.map HeldV.segs) 24) (bl : l.l.length ≤ 9223372036854775807) (hok : okFn Try.prog g = true) (hc : ∀ x ∈ l.l, Fo Try.prog g ([x.enc] ++ caps) M Hin (fun M' v => M' = M ∧ v = .bool (p x))) : Fo Try.prog 39 [l.val, .func (.func g) #[] caps.toArray] M Hin (fun M' v => M' = M ∧ v = .int .i64 (idxF p l.l)) := by
  have nl : (l.l.map HeldV.segs).length = l.l.length := List.length_map ..
  refine fo_enter Try.func39 rfl Try.ntmps39 rfl ?_; intro H
  have hrd := hl.app H
  refine C_seq ?_
  refine C_region (l := [0]) rfl ?_
  refine Y_assign ?_
  refine XD_end ?_
  refine K_then ?_
  iterate 2 refine C_seq ?_
  refine C_region (l := [0, 1, 2]) rfl ?_
  refine Y_move ?_
  refine Y_len_sl F.elem31 ?_
  refine Y_move ?_
  refine XD_end ?_
  refine K_then ?_
  refine Y_pk [8, 7, 4, 0, 1] ?_
  refine C_block ?_
  refine Y_pk [8, 7, 4, 0, 1] ?_
  refine C_loopS (.succ .zero) (fun (k : Nat) z => z = [(8, .int .i64 (k : Int))] ∧ k ≤ l.l.length ∧ (∀ j (h : j < k) (h2 : j < l.l.length), p l.l[j] = false)) (fun k => l.l.length - k) (0) (⟨rfl, by omega, by (intro j hj; omega)⟩) ?_
  rintro k _ ⟨rfl, hk, hI⟩
  refine C_seq ?_
  refine C_region (l := [0]) rfl ?_
  refine Y_cmp ?_
  refine XD_end ?_
  refine K_then ?_
  refine C_seq ?_
  refine C_cond rfl (fun hc1 => ?_) (fun hc1 => ?_)
  ·skip
   replace hc1 := dT hc1
   refine C_skip ?_
   refine K_then ?_
   refine C_seq ?_
   refine C_block ?_
   refine C_seq ?_
   refine C_region (l := [0, 1]) rfl ?_
   refine Y_move ?_
   refine Y_assign ?_
   refine XD_end ?_
   refine K_then ?_
   refine C_seq ?_
   refine C_region (l := [0, 1, 2, 3, 4, 5]) rfl ?_
   iterate 3 refine Y_move ?_
   refine X_indexAddr rfl rfl rfl rfl F.elem31 (by rfl) (by omega) (by exact RdS.plain (by assumption) (by (simp; omega))) rfl ?_
   refine X_load_rd rfl rfl rfl (by assumption) (by exact row_map (by omega)) F.lay49 rfl rfl rfl ?_
   refine X_foV rfl rfl rfl hok rfl rfl (hc _ (List.getElem_mem (n := k) (by omega))) (Rem.here _) (putE_some rfl) ?_
   rintro _ M1 _ ⟨hM1, rfl⟩; subst M1
   refine XD_end ?_
   refine K_then ?_
   refine C_cond rfl (fun hc2 => ?_) (fun hc2 => ?_)
   ·skip
    have hP := hc2
    refine C_seq ?_
    refine C_region (l := [0, 1]) rfl ?_
    refine Y_move ?_
    refine Y_assign ?_
    refine XD_end ?_
    refine K_then ?_
    refine C_ret ?_
    refine K_retB ?_
    iterate 2 refine K_ret ?_
    refine K_retB ?_
    refine K_ret ?_
    refine K_end (.inr rfl) (.tmp rfl .nil) (fun w hw => ?_)
    refine ⟨_, M, rfl, Mem.le.refl M, hw.c, rfl, ?_⟩
    refine congrArg (Value.int .i64) ?_
    exact (idxF_at (by omega) (fun j hj => hI j hj _) hP).symm
   ·skip
    have hP := hc2
    refine C_skip ?_
    refine K_out ?_
    refine K_then ?_
    refine C_region (l := [0, 1]) rfl ?_
    refine X_ari rfl rfl rfl rfl rfl (by exact wrap_in (by decide) (by omega)) rfl ?_
    refine Y_move ?_
    refine XD_end ?_
    refine K_roundS (a' := [(8, _)]) (k + 1) (.cons (k := 8) rfl (.cons (k := 7) rfl (.cons (k := 4) rfl (.cons (k := 0) rfl (.cons (k := 1) rfl (.nil)))))) (fun w hw => by first | exact hw | exact hw.c) ?_ ?_
    ·refine ⟨rfl, by omega, ?_⟩
     (intro j hj hj2; rcases Nat.lt_or_ge j k with h9 | h9; exact hI j h9 hj2; obtain rfl : j = k := (by omega); simp_all)
    ·omega
  ·skip
   replace hc1 := dF hc1
   refine C_exit ?_
   iterate 2 refine K_exit ?_
   refine K_hit ?_
   refine K_then ?_
   refine Y_pk [4] ?_
   refine C_seq ?_
   refine C_region (l := [0]) rfl ?_
   refine Y_assign ?_
   refine XD_end ?_
   refine K_then ?_
   refine C_ret ?_
   refine K_end (.inr rfl) (.tmp rfl .nil) (fun w hw => ?_)
   refine ⟨_, M, rfl, Mem.le.refl M, hw.c, rfl, ?_⟩
   refine congrArg (Value.int .i64) ?_
   exact (idxF_none (fun j hj => hI j (by omega) hj)).symm

theorem findc_ok (M : Mem) (b : Nat) (key : Plc) (x : HeldV) : Fo Try.prog 40 ([x.enc] ++ [.pointer (some ⟨b, 0, none⟩)]) M [(b, rowO [idSeg key] 33)] (fun M' v => M' = M ∧ v = .bool (decide (x.key = key))) := by
  obtain ⟨x_key, ⟨x_version, x_has, x_val, ⟨x_a, x_c, x_l⟩⟩⟩ := x
  refine fo_enter Try.func40 rfl Try.ntmps40 rfl ?_; intro H
  refine C_seq ?_
  refine C_region (l := [0, 1]) rfl ?_
  refine Y_box ?_; intro b1
  refine Y_assign ?_
  refine XD_end ?_
  refine K_then ?_
  refine Y_pk [3, 2, 1] ?_
  refine C_seq ?_
  refine C_region (l := [0, 1, 2, 3, 4]) rfl ?_
  refine Y_fieldAddr F.foff49_0 ?_
  iterate 2 refine Y_load F.lay33 ?_
  refine X_same (m := 20) rfl rfl rfl rfl rfl (by constructor) (by constructor) F.lay33 F.kinds33 rfl F.guard33 (fit_id fit_nil) (fit_id fit_nil) rfl rfl rfl ?_; intro c2 he3
  replace he3 : c2 = true ↔ Segs.cells _ = Segs.cells _ := he3
  obtain rfl := eqD he3 (cells_id1 (x := _) (y := _)); clear he3
  refine Y_assign ?_
  refine XD_end ?_
  refine K_then ?_
  refine Y_pk [3] ?_
  refine C_ret ?_
  refine K_end (.inr rfl) (.tmp rfl .nil) (fun w hw => ?_)
  refine ⟨_, M, rfl, Mem.le.refl M, hw.c, rfl, ?_⟩
  clear hw
  rfl

theorem Find_ok (M : Mem) (s : (Sl HeldV)) (key : Plc) (hs0 : SlK M HeldV.segs 24 s) (hs1 : ∀ y ∈ (s).l, HeldV.ok M y) : Fs Try.prog 17 [Sl.val s, aggV [idSeg key]] M (fun v => v =  (findXv (findX s.l key))) := by
  obtain ⟨s_a, s_c, s_l⟩ := s
  have k_s : SlK M HeldV.segs 24 ⟨s_a, s_c, s_l⟩ := hs0
  have s_s : SlM M s_a (s_l.map HeldV.segs) 24 := k_s.h1
  have n_s : (s_l.map HeldV.segs).length = s_l.length := List.length_map ..
  have m_s : s_l.length ≤ 9223372036854775807 := k_s.h2
  have c_s : s_l.length ≤ s_c := k_s.h3
  have l_s : ∀ y ∈ s_l, HeldV.ok M y := hs1
  refine fs_enter Try.func17 rfl Try.ntmps17 rfl ?_; intro H
  refine C_seq ?_
  refine C_region (l := [0, 1, 2]) rfl ?_
  refine Y_box ?_; intro b1
  refine Y_alloc F.zero37 ?_; intro b2
  refine Y_assign ?_
  refine XD_end ?_
  refine K_then ?_
  refine Y_pk [5, 4, 3, 0] ?_
  refine C_seq ?_
  refine C_region (l := [0, 1, 2, 3]) rfl ?_
  refine Y_move ?_
  refine X_makeFunc rfl rfl rfl rfl rfl ?_
  refine X_fo rfl rfl F.ok39 rfl (IndexFH_rd _ [(b1, _)] ⟨_, _, _⟩ 40 [_] (fun x => decide (x.key = key)) (s_s.rd _) m_s F.ok40 (fun x hx => findc_ok M _ key x)) (by repeat first | exact Rem.here _ | exact Rem.two | apply Rem.skip | apply Rem.over) (putE_some rfl) ?_
  rintro _ M1 _ ⟨hM1, rfl⟩; subst M1
  refine Y_assign ?_
  refine XD_end ?_
  refine K_then ?_
  refine Y_pk [6, 5, 4, 0] ?_
  iterate 2 refine C_seq ?_
  refine C_region (l := [0, 1]) rfl ?_
  refine Y_move ?_
  refine Y_cmp ?_
  refine XD_end ?_
  refine K_then ?_
  refine Y_pk [11, 6, 5, 4, 0] ?_
  refine C_cond rfl (fun hc3 => ?_) (fun hc3 => ?_)
  ·replace hc3 := dT hc3
   simp only [AnswerV.eta, MarkV.eta, CellV.eta, HeldV.eta, PeerV.eta] at hc3
   refine C_seq ?_
   refine C_region (l := [0, 1, 2]) rfl ?_
   refine X_build rfl rfl F.bld37 (.nil) rfl rfl ?_
   refine Y_store F.lay37 ?_
   refine Y_assign ?_
   refine XD_end ?_
   refine K_then ?_
   refine Y_pk [5, 6, 4, 0] ?_
   refine C_ret ?_
   refine K_ret ?_
   refine K_end (.inr rfl) (.cell rfl (by repeat first | exact List.Mem.head _ | refine List.Mem.tail _ ?_ | refine List.mem_append_right _ ?_) F.lay37 rfl rfl (.tmp rfl .nil)) (fun w hw => ?_)
   refine ⟨_, rfl, (hw.c), ?_⟩
   clear hw
   rw [findX_neg (by assumption)]
   rfl
  ·replace hc3 := dF hc3
   simp only [AnswerV.eta, MarkV.eta, CellV.eta, HeldV.eta, PeerV.eta] at hc3
   refine C_skip ?_
   refine K_then ?_
   refine Y_pk [6, 5, 4, 0] ?_
   refine C_seq ?_
   obtain ⟨i9, hi9, hil, hfx⟩ := findX_at (by assumption)
   rw [hi9]
   refine C_region (l := [0, 1, 2, 3, 4, 5, 6]) rfl ?_
   iterate 2 refine Y_move ?_
   refine X_indexAddr rfl rfl rfl rfl F.elem31 (by rfl) (by omega) (by exact SlM.plain (by assumption) (by (simp; omega))) rfl ?_
   refine X_fieldAddr_el rfl rfl rfl (by exact SlM.plain (by assumption) (by (simp; omega))) F.foff49_1 rfl ?_
   refine X_load_el rfl rfl rfl (by assumption) (by exact row_map (by omega)) F.lay37 rfl rfl rfl ?_
   refine Y_store F.lay37 ?_
   refine Y_assign ?_
   refine XD_end ?_
   refine K_then ?_
   refine Y_pk [5, 4] ?_
   refine C_ret ?_
   refine K_end (.inr rfl) (.cell rfl (by repeat first | exact List.Mem.head _ | refine List.Mem.tail _ ?_ | refine List.mem_append_right _ ?_) F.lay37 rfl rfl (.tmp rfl .nil)) (fun w hw => ?_)
   refine ⟨_, rfl, (hw.c), ?_⟩
   clear hw
   rw [hfx]
   rfl

theorem rFind_ok (M : Mem) (s : (Sl HeldV)) (key : Plc) (hs0 : SlK M HeldV.segs 24 s) (hs1 : ∀ y ∈ (s).l, HeldV.ok M y) : Fs Try.prog 18 [Sl.val s, aggV [idSeg key]] M (fun v => v =  (findXv (findX s.l key))) := by
  obtain ⟨s_a, s_c, s_l⟩ := s
  have k_s : SlK M HeldV.segs 24 ⟨s_a, s_c, s_l⟩ := hs0
  have s_s : SlM M s_a (s_l.map HeldV.segs) 24 := k_s.h1
  have n_s : (s_l.map HeldV.segs).length = s_l.length := List.length_map ..
  have m_s : s_l.length ≤ 9223372036854775807 := k_s.h2
  have c_s : s_l.length ≤ s_c := k_s.h3
  have l_s : ∀ y ∈ s_l, HeldV.ok M y := hs1
  refine fs_enter Try.func18 rfl Try.ntmps18 rfl ?_; intro H
  refine C_seq ?_
  refine C_region (l := [0, 1, 2]) rfl ?_
  refine Y_box ?_; intro b1
  refine Y_alloc F.zero37 ?_; intro b2
  refine Y_assign ?_
  refine XD_end ?_
  refine K_then ?_
  refine Y_pk [5, 4, 3, 0] ?_
  iterate 2 refine C_seq ?_
  refine C_region (l := [0]) rfl ?_
  refine Y_assign ?_
  refine XD_end ?_
  refine K_then ?_
  refine C_block ?_
  refine Y_pk [6, 5, 4, 3, 0] ?_
  refine C_loopS (.succ .zero) (fun (k : Nat) z => z = [(6, .int .i64 (k : Int))] ∧ k ≤ s_l.length ∧ (∀ j (h2 : j < s_l.length), j < k → ¬ s_l[j].key = key)) (fun k => s_l.length - k) (0) (⟨rfl, by omega, by (intro j h2 hj; omega)⟩) ?_
  rintro k _ ⟨rfl, hk, hI⟩
  iterate 2 refine C_seq ?_
  refine C_region (l := [0, 1, 2, 3]) rfl ?_
  iterate 2 refine Y_move ?_
  refine Y_len_sl F.elem31 ?_
  refine Y_cmp ?_
  refine XD_end ?_
  refine K_then ?_
  refine C_cond rfl (fun hc3 => ?_) (fun hc3 => ?_)
  ·replace hc3 := dT hc3
   refine C_skip ?_
   refine K_then ?_
   refine C_seq ?_
   refine C_block ?_
   refine C_seq ?_
   refine C_region_any (l := [0, 1, 2, 3, 4, 5, 6]) #[0, 0, 3, 7, 15, 0, 63] _ rfl (by kernel_rfl) (by kernel_rfl) St.drawn (fun _ h => h) ?_
   iterate 2 refine Y_move ?_
   refine X_indexAddr rfl rfl rfl rfl F.elem31 (by rfl) (by omega) (by exact SlM.plain (by assumption) (by (simp; omega))) rfl ?_
   refine X_fieldAddr_el rfl rfl rfl (by exact SlM.plain (by assumption) (by (simp; omega))) F.foff49_0 rfl ?_
   refine X_load_el rfl rfl rfl (by assumption) (by exact row_map (by omega)) F.lay33 rfl rfl rfl ?_
   refine Y_load F.lay33 ?_
   refine X_same (m := 20) rfl rfl rfl rfl rfl (by constructor) (by constructor) F.lay33 F.kinds33 rfl F.guard33 (fit_id fit_nil) (fit_id fit_nil) rfl rfl rfl ?_; intro c4 he5
   replace he5 : c4 = true ↔ Segs.cells _ = Segs.cells _ := he5
   obtain rfl := eqD he5 (cells_id1 (x := _) (y := _)); clear he5
   refine XD_end ?_
   refine K_then ?_
   refine C_cond rfl (fun hc6 => ?_) (fun hc6 => ?_)
   ·replace hc6 := dT hc6
    simp only [List.get_eq_getElem] at hc6
    refine C_seq ?_
    refine C_region (l := [0, 1, 2, 3, 4, 5, 6]) rfl ?_
    iterate 2 refine Y_move ?_
    refine X_indexAddr rfl rfl rfl rfl F.elem31 (by rfl) (by omega) (by exact SlM.plain (by assumption) (by (simp; omega))) rfl ?_
    refine X_fieldAddr_el rfl rfl rfl (by exact SlM.plain (by assumption) (by (simp; omega))) F.foff49_1 rfl ?_
    refine X_load_el rfl rfl rfl (by assumption) (by exact row_map (by omega)) F.lay37 rfl rfl rfl ?_
    refine Y_store F.lay37 ?_
    refine Y_assign ?_
    refine XD_end ?_
    refine K_then ?_
    refine C_ret ?_
    refine K_retB ?_
    iterate 2 refine K_ret ?_
    refine K_retB ?_
    refine K_ret ?_
    refine K_end (.inr rfl) (.cell rfl (by repeat first | exact List.Mem.head _ | refine List.Mem.tail _ ?_ | refine List.mem_append_right _ ?_) F.lay37 rfl rfl (.tmp rfl .nil)) (fun w hw => ?_)
    refine ⟨_, rfl, (hw.c), ?_⟩
    clear hw
    rw [findX_first (by omega) (fun j h2 hj => hI j h2 hj) (by assumption)]
    rfl
   ·replace hc6 := dF hc6
    simp only [List.get_eq_getElem] at hc6
    refine C_skip ?_
    refine K_out ?_
    refine K_then ?_
    refine C_region (l := [0, 1, 2]) rfl ?_
    refine Y_move ?_
    refine X_ari rfl rfl rfl rfl rfl (by exact wrap_in (by decide) (by omega)) rfl ?_
    refine Y_assign ?_
    refine XD_end ?_
    refine K_roundS (a' := [(6, _)]) (k + 1) (.cons (k := 6) rfl (.cons (k := 5) rfl (.cons (k := 4) rfl (.cons (k := 3) rfl (.cons (k := 0) rfl (.nil)))))) (fun w hw => by first | exact hw | exact hw.c) ?_ ?_
    ·refine ⟨rfl, by omega, ?_⟩
     (intro j h2 hj; rcases Nat.lt_or_ge j k with h9 | h9; exact hI j h2 h9; obtain rfl : j = k := (by omega); assumption)
    ·omega
  ·replace hc3 := dF hc3
   refine C_exit ?_
   iterate 2 refine K_exit ?_
   refine K_hit ?_
   refine K_then ?_
   refine Y_pk [5, 4] ?_
   refine C_seq ?_
   refine C_region (l := [0, 1, 2]) rfl ?_
   refine X_build rfl rfl F.bld37 (.nil) rfl rfl ?_
   refine Y_store F.lay37 ?_
   refine Y_assign ?_
   refine XD_end ?_
   refine K_then ?_
   refine Y_pk [5, 4] ?_
   refine C_ret ?_
   refine K_end (.inr rfl) (.cell rfl (by repeat first | exact List.Mem.head _ | refine List.Mem.tail _ ?_ | refine List.mem_append_right _ ?_) F.lay37 rfl rfl (.tmp rfl .nil)) (fun w hw => ?_)
   refine ⟨_, rfl, (hw.c), ?_⟩
   clear hw
   rw [findX_none (fun j h2 => hI j h2 (by omega))]
   rfl

theorem StIs_ok (M : Mem) (s : (Sl HeldV)) (hs0 : SlK M HeldV.segs 24 s) (hs1 : ∀ y ∈ (s).l, HeldV.ok M y) : Fs Try.prog 23 [Sl.val s] M (fun v => v = Value.bool (decide (IsSt (pls s.l)))) := by
  obtain ⟨s_a, s_c, s_l⟩ := s
  have k_s : SlK M HeldV.segs 24 ⟨s_a, s_c, s_l⟩ := hs0
  have s_s : SlM M s_a (s_l.map HeldV.segs) 24 := k_s.h1
  have n_s : (s_l.map HeldV.segs).length = s_l.length := List.length_map ..
  have m_s : s_l.length ≤ 9223372036854775807 := k_s.h2
  have c_s : s_l.length ≤ s_c := k_s.h3
  have l_s : ∀ y ∈ s_l, HeldV.ok M y := hs1
  refine fs_enter Try.func23 rfl Try.ntmps23 rfl ?_; intro H
  refine C_seq ?_
  refine C_region (l := [0]) rfl ?_
  refine Y_assign ?_
  refine XD_end ?_
  refine K_then ?_
  iterate 2 refine C_seq ?_
  refine C_region (l := [0, 1, 2]) rfl ?_
  refine Y_move ?_
  refine Y_len_sl F.elem31 ?_
  refine Y_move ?_
  refine XD_end ?_
  refine K_then ?_
  refine C_block ?_
  refine Y_pk [7, 6, 5, 2, 0] ?_
  refine C_loopS (.succ .zero) (fun (k : Nat) z => z = [(7, .int .i64 (k : Int))] ∧ k ≤ s_l.length ∧ (StOk ((pls s_l).take k))) (fun k => s_l.length - k) (0) (⟨rfl, by omega, by (refine ⟨fun m hm => by simp at hm, by simp⟩)⟩) ?_
  rintro k _ ⟨rfl, hk, hI⟩
  refine C_seq ?_
  refine C_region (l := [0]) rfl ?_
  refine Y_cmp ?_
  refine XD_end ?_
  refine K_then ?_
  refine C_seq ?_
  refine C_cond rfl (fun hc1 => ?_) (fun hc1 => ?_)
  ·replace hc1 := dT hc1
   refine C_skip ?_
   refine K_then ?_
   refine C_seq ?_
   refine C_block ?_
   refine C_seq ?_
   refine C_region (l := [0, 1, 2, 3, 4, 5]) rfl ?_
   refine Y_move ?_
   refine X_indexAddr rfl rfl rfl rfl F.elem31 (by rfl) (by omega) (by exact SlM.plain (by assumption) (by (simp; omega))) rfl ?_
   refine X_load_el rfl rfl rfl (by assumption) (by exact row_map (by omega)) F.lay49 rfl rfl rfl ?_
   refine Y_alloc F.zero49 ?_; intro b2
   refine Y_assign ?_
   refine Y_store F.lay49 ?_
   refine XD_end ?_
   refine K_then ?_
   refine C_seq ?_
   have hpk : (pls s_l)[k]'(by rw [pls_len]; omega) = HeldV.pl s_l[k] := by simp [pls]
   have hp9 : ∀ h : 0 < k, (pls s_l)[k - 1]'(by rw [pls_len]; omega) = HeldV.pl s_l[k - 1] := fun h => by simp [pls]
   have e9 : ∀ h0 : 0 < k, s_l[((k : Int) - 1).toNat]'(by omega) = s_l[k - 1]'(by omega) := fun h0 => by congr 1; omega
   refine C_region_any (l := [0, 1, 2, 3, 4, 5, 6, 7, 8, 9, 10, 11, 12, 13, 14, 15, 16, 17, 18, 19]) #[0, 1, 3, 7, 15, 31, 63, 127, 255, 255, 767, 2047, 4095, 8191, 255, 16639, 65535, 131071, 262143, 524287] _ rfl (by kernel_rfl) (by kernel_rfl) St.drawn (fun _ h => h) ?_
   refine Y_fieldAddr F.foff49_1 ?_
   refine Y_load F.lay37 ?_
   refine X_fs rfl rfl F.ok41 rfl (CelIs_ok _ s_l[k].cell (l_s _ (List.getElem_mem (by omega))).h0) rfl ?_
   rintro _ rfl
   refine Y_not ?_
   refine Y_move ?_
   refine XD_part 16 rfl (fun hc3 => ?_) (fun hc3 => ?_)
   ·replace hc3 := nT hc3
    iterate 14 refine Y_skip ?_
    refine Y_pick ?_
    refine XD_end ?_
    refine K_then ?_
    refine C_true rfl ?_
    refine C_seq ?_
    refine C_region (l := [0]) rfl ?_
    refine Y_assign ?_
    refine XD_end ?_
    refine K_then ?_
    refine C_ret ?_
    refine K_retB ?_
    iterate 2 refine K_ret ?_
    refine K_retB ?_
    refine K_ret ?_
    refine K_end (.inr rfl) (.tmp rfl .nil) (fun w hw => ?_)
    refine ⟨_, rfl, (hw.c), ?_⟩
    clear hw
    show _ = Value.bool (decide (IsSt (pls s_l)))
    refine congrArg Value.bool (decide_eq_false (fun h9 => ?_)).symm
    obtain ⟨_, g1, g2⟩ := (st_take (s := pls s_l) (k := k) (by rw [pls_len]; omega)).1 (st_pre h9.2 (k + 1))
    rw [hpk] at g1
    contradiction
   ·replace hc3 := nF hc3
    refine Y_move ?_
    refine Y_cmp ?_
    refine Y_move ?_
    refine XD_part 19 rfl (fun hc4 => ?_) (fun hc4 => ?_)
    ·replace hc4 := dT hc4
     iterate 2 refine Y_move ?_
     refine X_ari rfl rfl rfl rfl rfl (by exact wrap_in (by decide) (by omega)) rfl ?_
     refine X_indexAddr rfl rfl rfl rfl F.elem31 (by exact (Int.toNat_of_nonneg (by omega)).symm) (by omega) (by exact SlM.plain (by assumption) (by (simp; omega))) rfl ?_
     refine X_fieldAddr_el rfl rfl rfl (by exact SlM.plain (by assumption) (by (simp; omega))) F.foff49_0 rfl ?_
     refine X_load_el rfl rfl rfl (by assumption) (by exact row_map (by omega)) F.lay33 rfl rfl rfl ?_
     refine Y_fieldAddr F.foff49_0 ?_
     refine Y_load F.lay33 ?_
     refine X_fs rfl rfl F.ok46 rfl (Less_ok _ _ _) rfl ?_
     rintro _ rfl
     refine Y_not ?_
     iterate 2 refine Y_pick ?_
     refine XD_end ?_
     refine K_then ?_
     refine C_cond rfl (fun hc5 => ?_) (fun hc5 => ?_)
     ·replace hc5 := nT hc5
      simp only [List.get_eq_getElem] at hc5
      refine C_seq ?_
      refine C_region (l := [0]) rfl ?_
      refine Y_assign ?_
      refine XD_end ?_
      refine K_then ?_
      refine C_ret ?_
      refine K_retB ?_
      iterate 2 refine K_ret ?_
      refine K_retB ?_
      refine K_ret ?_
      refine K_end (.inr rfl) (.tmp rfl .nil) (fun w hw => ?_)
      refine ⟨_, rfl, (hw.c), ?_⟩
      clear hw
      show _ = Value.bool (decide (IsSt (pls s_l)))
      refine congrArg Value.bool (decide_eq_false (fun h9 => ?_)).symm
      obtain ⟨_, g1, g2⟩ := (st_take (s := pls s_l) (k := k) (by rw [pls_len]; omega)).1 (st_pre h9.2 (k + 1))
      rw [hpk] at g1
      (have h0 : 0 < k := (by omega); have h7 := g2 h0; have h8 := e9 h0; rw [hpk, hp9 h0] at h7; simp_all [HeldV.pl]; done)
     ·replace hc5 := nF hc5
      simp only [List.get_eq_getElem] at hc5
      refine C_skip ?_
      refine K_out ?_
      refine K_then ?_
      refine C_region (l := [0, 1]) rfl ?_
      refine X_ari rfl rfl rfl rfl rfl (by exact wrap_in (by decide) (by omega)) rfl ?_
      refine Y_move ?_
      refine XD_end ?_
      refine K_roundS (a' := [(7, _)]) (k + 1) (.cons (k := 7) rfl (.cons (k := 6) rfl (.cons (k := 5) rfl (.cons (k := 2) rfl (.cons (k := 0) rfl (.nil)))))) (fun w hw => by first | exact hw | exact hw.c) ?_ ?_
      ·refine ⟨rfl, by omega, ?_⟩
       (rw [st_take (by rw [pls_len]; omega)])
       refine ⟨hI, by rw [hpk]; assumption, fun h0 => ?_⟩
       rw [hpk, hp9 h0]
       (have h8 := e9 h0; simp_all [HeldV.pl]; done)
      ·omega
    ·replace hc4 := dF hc4
     iterate 10 refine Y_skip ?_
     iterate 2 refine Y_pick ?_
     refine XD_end ?_
     refine K_then ?_
     refine C_false rfl ?_
     refine C_skip ?_
     refine K_out ?_
     refine K_then ?_
     refine C_region (l := [0, 1]) rfl ?_
     refine X_ari rfl rfl rfl rfl rfl (by exact wrap_in (by decide) (by omega)) rfl ?_
     refine Y_move ?_
     refine XD_end ?_
     refine K_roundS (a' := [(7, _)]) (k + 1) (.cons (k := 7) rfl (.cons (k := 6) rfl (.cons (k := 5) rfl (.cons (k := 2) rfl (.cons (k := 0) rfl (.nil)))))) (fun w hw => by first | exact hw | exact hw.c) ?_ ?_
     ·refine ⟨rfl, by omega, ?_⟩
      (rw [st_take (by rw [pls_len]; omega)])
      refine ⟨hI, by rw [hpk]; assumption, fun h0 => ?_⟩
      rw [hpk, hp9 h0]
      omega
     ·omega
  ·replace hc1 := dF hc1
   refine C_exit ?_
   iterate 2 refine K_exit ?_
   refine K_hit ?_
   refine K_then ?_
   refine Y_pk [2, 0] ?_
   refine C_seq ?_
   refine C_region (l := [0, 1, 2, 3]) rfl ?_
   refine Y_move ?_
   refine Y_len_sl F.elem31 ?_
   refine Y_cmp ?_
   refine Y_assign ?_
   refine XD_end ?_
   refine K_then ?_
   refine Y_pk [2] ?_
   refine C_ret ?_
   refine K_end (.inr rfl) (.tmp rfl .nil) (fun w hw => ?_)
   refine ⟨_, rfl, (hw.c), ?_⟩
   clear hw
   show _ = Value.bool (decide (IsSt (pls s_l)))
   (have hk9 : k = s_l.length := (by omega); subst hk9; rw [List.take_of_length_le (by rw [pls_len]; omega)] at hI; exact congrArg Value.bool (decide_eq_decide.2 ⟨fun h9 => ⟨by rw [pls_len]; omega, hI⟩, fun h9 => by have := h9.1; rw [pls_len] at this; omega⟩))

theorem rStIs_ok (M : Mem) (s : (Sl HeldV)) (hs0 : SlK M HeldV.segs 24 s) (hs1 : ∀ y ∈ (s).l, HeldV.ok M y) : Fs Try.prog 24 [Sl.val s] M (fun v => v = Value.bool (decide (IsSt (pls s.l)))) := by
  obtain ⟨s_a, s_c, s_l⟩ := s
  have k_s : SlK M HeldV.segs 24 ⟨s_a, s_c, s_l⟩ := hs0
  have s_s : SlM M s_a (s_l.map HeldV.segs) 24 := k_s.h1
  have n_s : (s_l.map HeldV.segs).length = s_l.length := List.length_map ..
  have m_s : s_l.length ≤ 9223372036854775807 := k_s.h2
  have c_s : s_l.length ≤ s_c := k_s.h3
  have l_s : ∀ y ∈ s_l, HeldV.ok M y := hs1
  refine fs_enter Try.func24 rfl Try.ntmps24 rfl ?_; intro H
  refine C_seq ?_
  refine C_region (l := [0]) rfl ?_
  refine Y_assign ?_
  refine XD_end ?_
  refine K_then ?_
  iterate 2 refine C_seq ?_
  refine C_region (l := [0]) rfl ?_
  refine Y_assign ?_
  refine XD_end ?_
  refine K_then ?_
  refine C_block ?_
  refine Y_pk [3, 2, 0] ?_
  refine C_loopS (.succ .zero) (fun (k : Nat) z => z = [(3, .int .i64 (k : Int))] ∧ k ≤ s_l.length ∧ (StOk ((pls s_l).take k))) (fun k => s_l.length - k) (0) (⟨rfl, by omega, by (refine ⟨fun m hm => by simp at hm, by simp⟩)⟩) ?_
  rintro k _ ⟨rfl, hk, hI⟩
  iterate 2 refine C_seq ?_
  refine C_region (l := [0, 1, 2, 3, 4, 5, 6, 7, 8]) rfl ?_
  iterate 2 refine Y_move ?_
  refine Y_len_sl F.elem31 ?_
  refine Y_cmp ?_
  refine Y_move ?_
  refine XD_part 8 rfl (fun hc1 => ?_) (fun hc1 => ?_)
  ·replace hc1 := dT hc1
   refine Y_move ?_
   refine Y_len_sl F.elem31 ?_
   refine Y_cmp ?_
   refine Y_pick ?_
   refine XD_end ?_
   refine K_then ?_
   refine C_cond rfl (fun hc2 => ?_) (fun hc2 => ?_)
   ·replace hc2 := dT hc2
    refine C_skip ?_
    refine K_then ?_
    refine C_seq ?_
    refine C_block ?_
    refine C_seq ?_
    have hpk : (pls s_l)[k]'(by rw [pls_len]; omega) = HeldV.pl s_l[k] := by simp [pls]
    have hp9 : ∀ h : 0 < k, (pls s_l)[k - 1]'(by rw [pls_len]; omega) = HeldV.pl s_l[k - 1] := fun h => by simp [pls]
    have e9 : ∀ h0 : 0 < k, s_l[((k : Int) - 1).toNat]'(by omega) = s_l[k - 1]'(by omega) := fun h0 => by congr 1; omega
    refine C_region_any (l := [0, 1, 2, 3, 4, 5, 6, 7, 8, 9, 10, 11, 12, 13, 14, 15, 16, 17, 18, 19, 20, 21, 22, 23, 24, 25]) #[0, 0, 3, 7, 15, 31, 63, 127, 255, 511, 1023, 2047, 2047, 6143, 16383, 32767, 65535, 2047, 2047, 395263, 919551, 1968127, 4194303, 8388607, 16777215, 33554431] _ rfl (by kernel_rfl) (by kernel_rfl) St.drawn (fun _ h => h) ?_
    iterate 2 refine Y_move ?_
    refine X_indexAddr rfl rfl rfl rfl F.elem31 (by rfl) (by omega) (by exact SlM.plain (by assumption) (by (simp; omega))) rfl ?_
    refine X_fieldAddr_el rfl rfl rfl (by exact SlM.plain (by assumption) (by (simp; omega))) F.foff49_1 rfl ?_
    refine X_load_el rfl rfl rfl (by assumption) (by exact row_map (by omega)) F.lay37 rfl rfl rfl ?_
    refine X_fs rfl rfl F.ok43 rfl (rCelIs_ok _ s_l[k].cell (l_s _ (List.getElem_mem (by omega))).h0) rfl ?_
    rintro _ rfl
    refine Y_not ?_
    refine Y_move ?_
    refine XD_part 22 rfl (fun hc3 => ?_) (fun hc3 => ?_)
    ·replace hc3 := nT hc3
     iterate 17 refine Y_skip ?_
     refine Y_pick ?_
     refine XD_end ?_
     refine K_then ?_
     refine C_true rfl ?_
     refine C_seq ?_
     refine C_region (l := [0]) rfl ?_
     refine Y_assign ?_
     refine XD_end ?_
     refine K_then ?_
     refine C_ret ?_
     refine K_retB ?_
     iterate 2 refine K_ret ?_
     refine K_retB ?_
     refine K_ret ?_
     refine K_end (.inr rfl) (.tmp rfl .nil) (fun w hw => ?_)
     refine ⟨_, rfl, (hw.c), ?_⟩
     clear hw
     show _ = Value.bool (decide (IsSt (pls s_l)))
     refine congrArg Value.bool (decide_eq_false (fun h9 => ?_)).symm
     obtain ⟨_, g1, g2⟩ := (st_take (s := pls s_l) (k := k) (by rw [pls_len]; omega)).1 (st_pre h9.2 (k + 1))
     rw [hpk] at g1
     contradiction
    ·replace hc3 := nF hc3
     refine Y_move ?_
     refine Y_cmp ?_
     refine Y_move ?_
     refine XD_part 25 rfl (fun hc4 => ?_) (fun hc4 => ?_)
     ·replace hc4 := dT hc4
      iterate 2 refine Y_move ?_
      refine X_ari rfl rfl rfl rfl rfl (by exact wrap_in (by decide) (by omega)) rfl ?_
      refine X_indexAddr rfl rfl rfl rfl F.elem31 (by exact (Int.toNat_of_nonneg (by omega)).symm) (by omega) (by exact SlM.plain (by assumption) (by (simp; omega))) rfl ?_
      refine X_fieldAddr_el rfl rfl rfl (by exact SlM.plain (by assumption) (by (simp; omega))) F.foff49_0 rfl ?_
      refine X_load_el rfl rfl rfl (by assumption) (by exact row_map (by omega)) F.lay33 rfl rfl rfl ?_
      iterate 2 refine Y_move ?_
      refine X_indexAddr rfl rfl rfl rfl F.elem31 (by rfl) (by omega) (by exact SlM.plain (by assumption) (by (simp; omega))) rfl ?_
      refine X_fieldAddr_el rfl rfl rfl (by exact SlM.plain (by assumption) (by (simp; omega))) F.foff49_0 rfl ?_
      refine X_load_el rfl rfl rfl (by assumption) (by exact row_map (by omega)) F.lay33 rfl rfl rfl ?_
      refine X_fs rfl rfl F.ok47 rfl (rLess_ok _ _ _) rfl ?_
      rintro _ rfl
      refine Y_not ?_
      iterate 2 refine Y_pick ?_
      refine XD_end ?_
      refine K_then ?_
      refine C_cond rfl (fun hc5 => ?_) (fun hc5 => ?_)
      ·replace hc5 := nT hc5
       simp only [List.get_eq_getElem] at hc5
       refine C_seq ?_
       refine C_region (l := [0]) rfl ?_
       refine Y_assign ?_
       refine XD_end ?_
       refine K_then ?_
       refine C_ret ?_
       refine K_retB ?_
       iterate 2 refine K_ret ?_
       refine K_retB ?_
       refine K_ret ?_
       refine K_end (.inr rfl) (.tmp rfl .nil) (fun w hw => ?_)
       refine ⟨_, rfl, (hw.c), ?_⟩
       clear hw
       show _ = Value.bool (decide (IsSt (pls s_l)))
       refine congrArg Value.bool (decide_eq_false (fun h9 => ?_)).symm
       obtain ⟨_, g1, g2⟩ := (st_take (s := pls s_l) (k := k) (by rw [pls_len]; omega)).1 (st_pre h9.2 (k + 1))
       rw [hpk] at g1
       (have h0 : 0 < k := (by omega); have h7 := g2 h0; have h8 := e9 h0; rw [hpk, hp9 h0] at h7; simp_all [HeldV.pl]; done)
      ·replace hc5 := nF hc5
       simp only [List.get_eq_getElem] at hc5
       refine C_skip ?_
       refine K_out ?_
       refine K_then ?_
       refine C_region (l := [0, 1, 2]) rfl ?_
       refine Y_move ?_
       refine X_ari rfl rfl rfl rfl rfl (by exact wrap_in (by decide) (by omega)) rfl ?_
       refine Y_assign ?_
       refine XD_end ?_
       refine K_roundS (a' := [(3, _)]) (k + 1) (.cons (k := 3) rfl (.cons (k := 2) rfl (.cons (k := 0) rfl (.nil)))) (fun w hw => by first | exact hw | exact hw.c) ?_ ?_
       ·refine ⟨rfl, by omega, ?_⟩
        (rw [st_take (by rw [pls_len]; omega)])
        refine ⟨hI, by rw [hpk]; assumption, fun h0 => ?_⟩
        rw [hpk, hp9 h0]
        (have h8 := e9 h0; simp_all [HeldV.pl]; done)
       ·omega
     ·replace hc4 := dF hc4
      iterate 13 refine Y_skip ?_
      iterate 2 refine Y_pick ?_
      refine XD_end ?_
      refine K_then ?_
      refine C_false rfl ?_
      refine C_skip ?_
      refine K_out ?_
      refine K_then ?_
      refine C_region (l := [0, 1, 2]) rfl ?_
      refine Y_move ?_
      refine X_ari rfl rfl rfl rfl rfl (by exact wrap_in (by decide) (by omega)) rfl ?_
      refine Y_assign ?_
      refine XD_end ?_
      refine K_roundS (a' := [(3, _)]) (k + 1) (.cons (k := 3) rfl (.cons (k := 2) rfl (.cons (k := 0) rfl (.nil)))) (fun w hw => by first | exact hw | exact hw.c) ?_ ?_
      ·refine ⟨rfl, by omega, ?_⟩
       (rw [st_take (by rw [pls_len]; omega)])
       refine ⟨hI, by rw [hpk]; assumption, fun h0 => ?_⟩
       rw [hpk, hp9 h0]
       omega
      ·omega
   ·replace hc2 := dF hc2
    refine C_exit ?_
    iterate 2 refine K_exit ?_
    refine K_hit ?_
    refine K_then ?_
    refine Y_pk [2, 0] ?_
    refine C_seq ?_
    refine C_region (l := [0, 1, 2, 3]) rfl ?_
    refine Y_move ?_
    refine Y_len_sl F.elem31 ?_
    refine Y_cmp ?_
    refine Y_assign ?_
    refine XD_end ?_
    refine K_then ?_
    refine Y_pk [2] ?_
    refine C_ret ?_
    refine K_end (.inr rfl) (.tmp rfl .nil) (fun w hw => ?_)
    refine ⟨_, rfl, (hw.c), ?_⟩
    clear hw
    show _ = Value.bool (decide (IsSt (pls s_l)))
    exact congrArg Value.bool (decide_eq_decide.2 ⟨fun h9 => absurd h9 (by omega), fun h9 => absurd h9.1 (by rw [pls_len]; omega)⟩)
  ·replace hc1 := dF hc1
   iterate 3 refine Y_skip ?_
   refine Y_pick ?_
   refine XD_end ?_
   refine K_then ?_
   refine C_false rfl ?_
   refine C_exit ?_
   iterate 2 refine K_exit ?_
   refine K_hit ?_
   refine K_then ?_
   refine Y_pk [2, 0] ?_
   refine C_seq ?_
   refine C_region (l := [0, 1, 2, 3]) rfl ?_
   refine Y_move ?_
   refine Y_len_sl F.elem31 ?_
   refine Y_cmp ?_
   refine Y_assign ?_
   refine XD_end ?_
   refine K_then ?_
   refine Y_pk [2] ?_
   refine C_ret ?_
   refine K_end (.inr rfl) (.tmp rfl .nil) (fun w hw => ?_)
   refine ⟨_, rfl, (hw.c), ?_⟩
   clear hw
   show _ = Value.bool (decide (IsSt (pls s_l)))
   (have hk9 : k = s_l.length := (by omega); subst hk9; rw [List.take_of_length_le (by rw [pls_len]; omega)] at hI; exact congrArg Value.bool (decide_eq_decide.2 ⟨fun h9 => ⟨by rw [pls_len]; omega, hI⟩, fun h9 => by have := h9.1; rw [pls_len] at this; omega⟩))

end Go.Proofs.Ytbafnjniijodfaa
