/-
  Texts of this claim, one behind the other: SortL, SortG, T10, T11, T12, T13, T14, T15, T16, StoreL, T17, T18, WholeL, T19, HealL, T20, SmallN, T21, T22.
-/
import Derived.Test.YtbafnjniijodfaaPq3
import Derived.Shelf.SlSortCmp.WholeK
import Derived.Shelf.SlGeneric
import Derived.Ground.SlsfProg
import Derived.Test.YtbafnjniijodfaaRows
/-
  DERIVED: THE SHELF's CONTRACTS AT THIS DUMP, IN PLAIN WORDS (tools/lay-plain.mjs out of 'YtbafnjniijodfaaLayTmp.lean', which tools/lay-shelf.mjs wrote): THE SAME DECLARATIONS UNDER THE SAME NAMES: 'import', 'namespace', 'open', 'def', 'theorem' AND NOTHING ELSE: no command of the shelf's: FOR A HAND-IN. Each laying: the table of numbers ('.._ren') and one theorem, a field a fact of the dump's own or the kernel's comparison; each contract: ONE APPLICATION.
-/
namespace Go.Proofs
open Go.Shelf
def Try.sortL_ren : Go.Shelf.Ren := ⟨fun | 6 => 54 | 15 => 74 | 14 => 73 | 28 => 88 | 29 => 89 | 20 => 80 | 21 => 81 | 22 => 82 | 23 => 83 | 24 => 84 | 25 => 85 | 26 => 86 | 27 => 87 | 46 => 92 | 47 => 93 | 48 => 94 | 49 => 95 | 50 => 96 | 57 => 98 | n => n, fun | 22 => 31 | 24 => 49 | 25 => 82 | 3 => 3 | 39 => 102 | 0 => 0 | 53 => 114 | 55 => 34 | 4 => 4 | 46 => 108 | 45 => 107 | 50 => 98 | 5 => 5 | 9 => 9 | 66 => 117 | 70 => 121 | 76 => 123 | 77 => 124 | n => n, fun | n => n⟩
theorem Try.sortL : Go.Proofs.SlLaysF0.n6 Try.prog Try.sortL_ren := {
  mixed := by kernel_rfl
  f6 := ⟨Try.f54.name, by decide, Try.func54.trans (congrArg some (by kernel_rfl))⟩
  f14 := ⟨Try.f73.name, by decide, Try.func73.trans (congrArg some (by kernel_rfl))⟩
  f15 := Try.func74.trans (congrArg some (by kernel_rfl))
  f20 := ⟨Try.f80.name, by decide, Try.func80.trans (congrArg some (by kernel_rfl))⟩
  f21 := ⟨Try.f81.name, by decide, Try.func81.trans (congrArg some (by kernel_rfl))⟩
  f22 := ⟨Try.f82.name, by decide, Try.func82.trans (congrArg some (by kernel_rfl))⟩
  f23 := ⟨Try.f83.name, by decide, Try.func83.trans (congrArg some (by kernel_rfl))⟩
  f24 := ⟨Try.f84.name, by decide, Try.func84.trans (congrArg some (by kernel_rfl))⟩
  f25 := ⟨Try.f85.name, by decide, Try.func85.trans (congrArg some (by kernel_rfl))⟩
  f26 := ⟨Try.f86.name, by decide, Try.func86.trans (congrArg some (by kernel_rfl))⟩
  f27 := ⟨Try.f87.name, by decide, Try.func87.trans (congrArg some (by kernel_rfl))⟩
  f28 := Try.func88.trans (congrArg some (by kernel_rfl))
  f29 := Try.func89.trans (congrArg some (by kernel_rfl))
  f46 := ⟨Try.f92.name, by decide, Try.func92.trans (congrArg some (by kernel_rfl))⟩
  f47 := Try.func93.trans (congrArg some (by kernel_rfl))
  f48 := Try.func94.trans (congrArg some (by kernel_rfl))
  f49 := ⟨Try.f95.name, by decide, Try.func95.trans (congrArg some (by kernel_rfl))⟩
  f50 := ⟨Try.f96.name, by decide, Try.func96.trans (congrArg some (by kernel_rfl))⟩
  f57 := ⟨Try.f98.name, by decide, Try.func98.trans (congrArg some (by kernel_rfl))⟩
  t0 := Try.underlying0
  a0 := Try.isAgg0
  z0 := Try.sizeOf0
  v0 := Try.zeroValue0
  t3 := Try.underlying3
  a3 := Try.isAgg3
  z3 := Try.sizeOf3
  v3 := Try.zeroValue3
  t4 := Try.underlying4
  a4 := Try.isAgg4
  z4 := Try.sizeOf4
  v4 := Try.zeroValue4
  t5 := Try.underlying5
  a5 := Try.isAgg5
  z5 := Try.sizeOf5
  v5 := Try.zeroValue5
  t9 := Try.underlying9
  a9 := Try.isAgg9
  z9 := Try.sizeOf9
  v9 := Try.zeroValue9
  t22 := Try.underlying31
  a22 := Try.isAgg31
  z22 := Try.sizeOf31
  v22 := Try.zeroValue31
  t25 := Try.underlying82
  a25 := Try.isAgg82
  z25 := Try.sizeOf82
  v25 := Try.zeroValue82
  t39 := Try.underlying102
  a39 := Try.isAgg102
  z39 := Try.sizeOf102
  v39 := Try.zeroValue102
  t45 := Try.underlying107
  a45 := Try.isAgg107
  z45 := Try.sizeOf107
  v45 := Try.zeroValue107
  t46 := Try.underlying108
  a46 := Try.isAgg108
  z46 := Try.sizeOf108
  v46 := Try.zeroValue108
  t50 := Try.underlying98
  a50 := Try.isAgg98
  z50 := Try.sizeOf98
  v50 := Try.zeroValue98
  t53 := Try.underlying114
  a53 := Try.isAgg114
  z53 := Try.sizeOf114
  v53 := Try.zeroValue114
  t55 := Try.underlying34
  a55 := Try.isAgg34
  z55 := Try.sizeOf34
  v55 := Try.zeroValue34
  t66 := Try.underlying117
  a66 := Try.isAgg117
  z66 := Try.sizeOf117
  v66 := Try.zeroValue117
  t70 := Try.underlying121
  a70 := Try.isAgg121
  z70 := Try.sizeOf121
  v70 := Try.zeroValue121
  t76 := Try.underlying123
  a76 := Try.isAgg123
  z76 := Try.sizeOf123
  v76 := Try.zeroValue123
  t77 := Try.underlying124
  a77 := Try.isAgg124
  z77 := Try.sizeOf124
  v77 := Try.zeroValue124 }
end Go.Proofs
/-
  slices.SortFunc, at rows of structs of our own: the shelf's contract, in our terms.
-/
set_option linter.unusedSimpArgs false
set_option linter.unusedVariables false
set_option linter.unnecessarySimpa false
namespace Go.Esp
open Go.Proofs Go.Shelf Go.RowKit Go.Lib Go.Sort

/-- A world's memory, with what was drawn. -/
def memS (W : World) : Mem := ⟨fun b => W.heap[b]?, W.os, W.tape, W.output, W.drawn⟩
theorem St.startS (W : World) : St (memS W) [] W := ⟨fun _ _ h => h, fun _ _ h => (by cases h), fun _ _ h => (by cases h), List.nodup_nil, rfl, rfl, rfl, Nat.le_refl _⟩
theorem lays_of_fs {P : Program} {g : FuncId} {vs : List Value} {r : Value} (h : ∀ M, Fs P g vs M (fun v => v = r)) (W : World) : Calls P g vs.toArray W fun e w' => e = .returned r ∧ ∃ q os', w' = grow (W.drewN q) os' := by
  refine (h (memS W) [] W (St.startS W)).mono ?_
  rintro e w' ⟨v, rfl, hst, rfl⟩
  refine ⟨rfl, w'.drawn - W.drawn, w'.heap.extract W.heap.size w'.heap.size, ?_⟩
  have hp : ∀ b o, W.heap[b]? = some o → w'.heap[b]? = some o := hst.mem
  obtain ⟨h1, h2, h3, h4⟩ := hst.io
  have hle : W.heap.size ≤ w'.heap.size := by
    rcases Nat.eq_zero_or_pos W.heap.size with h0 | h0
    · omega
    · have := hp (W.heap.size - 1) _ (Array.getElem?_eq_getElem (by omega))
      have := (Array.getElem?_eq_some_iff.1 this).1
      omega
  have hh : w'.heap = W.heap ++ w'.heap.extract W.heap.size w'.heap.size := by
    apply Array.ext_getElem?
    intro i
    rw [Array.getElem?_append]
    split
    · rename_i hi
      rw [hp i _ (Array.getElem?_eq_getElem hi), Array.getElem?_eq_getElem hi]
    · rename_i hi
      rw [Array.getElem?_extract]
      rw [show W.heap.size + (i - W.heap.size) = i by omega]
      split
      · rfl
      · rw [Array.getElem?_eq_none]; omega
  cases w' with
  | mk heap tape drawn os output =>
    simp only [grow, World.drewN, World.mk.injEq]
    simp only [memS] at h1 h2 h3 h4
    exact ⟨hh, h2, (Nat.add_sub_cancel' h4).symm, h1, h3⟩

section
variable {α : Type} [Inhabited α] {f : α → Segs} {sz : Nat}
theorem rowsCells_get {rows : List Segs} (h : lens sz rows) {j i : Nat} {r : Segs} (hr : rows[j]? = some r) (hi : i < sz) : (rowsCells rows)[j * sz + i]? = (Segs.cells r)[i]? := by
  rw [← rowsCells_at h hr, List.getElem?_take, if_pos hi, List.getElem?_drop]
theorem flat_get (hpos : 0 < sz) (hk : ∀ x, (Segs.cells (f x)).length = sz) {l : List α} (hl : lens sz (l.map f)) {t : Nat} (ht : t < l.length * sz) :
    (rowsCells (l.map f))[t]? = some ((flatK (fun x => Segs.cells (f x)) sz l.toArray)[t]!) := by
  have hj : t / sz < l.length := (Nat.div_lt_iff_lt_mul hpos).2 ht
  have hm := Nat.mod_lt t hpos
  have h := rowsCells_get hl (j := t / sz) (i := t % sz) (r := f l[t / sz]) (by rw [List.getElem?_map, List.getElem?_eq_getElem hj]; rfl) hm
  rw [Nat.div_add_mod'] at h
  rw [h, get_flatK _ _ _ _ (by simpa using ht)]
  have e : l.toArray[t / sz]! = l[t / sz] := by rw [getElem!_pos _ _ (by simpa using hj)]; simp
  rw [e, List.getElem?_eq_getElem (by rw [hk]; exact hm)]
  congr 1
  rw [getElem!_pos _ _ (by rw [hk]; exact hm)]
theorem st_sorted {M : Mem} {H : Hp} {w : World} {b T : Nat} {cur F : Array Value} (hw : St M ((b, .cells cur T (0, 0)) :: H) w) (n : Nat) (os : Array Obj) :
    St M ((b, .cells (putCells id 0 F cur) T (0, 0)) :: H) (grow (putRow id (Sort.ahead w n) b 0 F) os) := by
  have hb := hw.own b _ (.head _)
  have hlt := (Array.getElem?_eq_some_iff.1 hb).1
  refine hw.upd .head ?_ (fun c hc x hx => ?_) ⟨rfl, rfl, rfl, Nat.le_add_right _ _⟩
  · show ((w.heap.modify b _) ++ os)[b]? = _
    rw [Array.getElem?_append_left (by simpa using hlt), Array.getElem?_modify, if_pos rfl, hb]
    rfl
  · show ((w.heap.modify b _) ++ os)[c]? = _
    have hcl := (Array.getElem?_eq_some_iff.1 hx).1
    rw [Array.getElem?_append_left (by simpa using hcl), Array.getElem?_modify, if_neg (Ne.symm hc), hx]

theorem sort_fh {P : Program} {ρ : Ren} (L : SlLaysF0.n6 P ρ) (aE : ∀ w, (isAgg (ρ.t 24)).run P w = .ok true w) (zE : ∀ w, (Go.sizeOf (ρ.t 24)).run P w = .ok sz w) (hpos : 0 < sz) (hk : ∀ x, (Segs.cells (f x)).length = sz)
    (h1 : ∀ x, ∀ v ∈ Segs.cells (f x), v.oneCell' = true) (cf : α → α → Int) (hO : SWO (ltOf cf)) (g : FuncId) (hg : okFn P g = true) (hc : ∀ M x y, Fs P g [aggV (f x), aggV (f y)] M (fun v => v = .int .i64 (cf x y)))
    {T b c : Nat} {l : List α} {hs : Hp} (ho : OSl T sz (.slice (some ⟨b, 0, none⟩) l.length c) hs (l.map f)) (hl : l.length ≤ 1000000) (M : Mem) :
    Fh P (ρ.f 6) [.slice (some ⟨b, 0, none⟩) l.length c, .func (.func g) #[] #[]] M hs (fun M' v Hout => M' = M ∧ v = .tuple #[] ∧ ∃ l' : List α, l'.Perm l ∧ l'.Pairwise (fun x y => ¬ cf y x < 0) ∧ OSl T sz (.slice (some ⟨b, 0, none⟩) l.length c) Hout (l'.map f)) := by
  obtain ⟨cur, rfl, hl0, hlens, hle, hcm, hcs, htk⟩ := ho.inv
  have hml : (l.map f).length = l.length := List.length_map ..
  rw [hml] at hle htk
  intro H w hw
  have hb := hw.own b _ (.head _)
  have hlt := (Array.getElem?_eq_some_iff.1 hb).1
  have hsz : l.length * sz ≤ cur.size := by rw [hcs]; exact Nat.mul_le_mul_right _ hle
  have hH : HoldsK (fun x => Segs.cells (f x)) sz w b 0 l.toArray := by
    intro j hj
    have hj' : j < l.length * sz := by simpa using hj
    refine ⟨?_, ?_⟩
    · unfold World.cell?
      simp only [hb, Option.isSome_none, Bool.false_eq_true, if_false, Nat.zero_add, id]
      rw [← flat_get hpos hk hlens hj', ← htk, List.getElem?_take, if_pos hj']
      simp
    · unfold World.frozen?
      simp only [hb]
      simp
  have hcl : CmpLays P g #[] (fun x => Segs.cells (f x)) sz cf b 0 l.toArray.size w := fun m os dk _ x y => lays_of_fs (fun M => hc M x y) _
  have key := AnyQ.slices_SortFunc L sz aE zE (fun x => Segs.cells (f x)) hk h1 cf hO g #[] b 0 c l.toArray w (fun args w => callFunc_run hg) hcl hH hlt (by simp; omega)
  rw [show l.toArray.size = l.length from by simp] at key
  refine key.mono ?_
  rintro e w' ⟨rfl, d', n, os, ⟨hp1, _, hp3⟩, hs1, rfl⟩
  have hd : d'.size = l.length := by simpa using hp1
  have hst := st_sorted (F := flatK (fun x => Segs.cells (f x)) sz d') hw n os
  have hperm : d'.toList.Perm l := by
    have h9 := hp3
    rw [show d'.extract 0 l.length = d' from by rw [← hd]; simp, show l.toArray.extract 0 l.length = l.toArray from by rw [show l.length = l.toArray.size from by simp]; simp] at h9
    simpa using h9
  have hlens' : lens sz (d'.toList.map f) := fun r hr => by
    obtain ⟨x, hx, rfl⟩ := List.mem_map.1 hr
    rw [← Segs.cells_length]; exact hk x
  refine ⟨_, M, [(b, .cells (putCells id 0 (flatK (fun x => Segs.cells (f x)) sz d') cur) T (0, 0))], rfl, Mem.le.refl M, hst, rfl, rfl, d'.toList, hperm, ?_, ?_⟩
  · rw [List.pairwise_iff_getElem]
    intro i j hi hj hij
    have h9 := hs1 i j (Nat.zero_le _) hij (by rw [← hd]; simpa using hj)
    rw [getElem!_pos _ _ (by simpa using hj), getElem!_pos _ _ (by simpa using hi)] at h9
    unfold ltOf at h9
    simpa using h9
  · have hln : (d'.toList.map f).length = l.length := by simpa using hd
    have := OSl.own (T := T) b c (d'.toList.map f) (putCells id 0 (flatK (fun x => Segs.cells (f x)) sz d') cur) hlens' (by rw [hln]; exact hle) hcm (by simpa [putCells] using hcs) ?_
    · rw [hln] at this; exact this
    · apply List.ext_getElem?
      intro t
      rw [List.getElem?_take]
      by_cases ht : t < (d'.toList.map f).length * sz
      · rw [if_pos ht]
        have ht' : t < d'.toList.length * sz := by simpa using ht
        rw [flat_get hpos hk hlens' ht']
        have htc : t < cur.size := by rw [hln] at ht; omega
        simp only [putCells, Array.getElem?_toList, Array.getElem?_mapIdx, Array.getElem?_eq_getElem htc, Option.map_some]
        rw [if_pos ⟨Nat.zero_le _, by simpa using ht⟩]
        simp
      · rw [if_neg ht, List.getElem?_eq_none]
        rw [rowsCells_len hlens']; omega
end
end Go.Esp
/-
  What blends cells; the order of keys.
-/
set_option linter.unusedSimpArgs false
set_option linter.unusedVariables false
set_option linter.unnecessarySimpa false
set_option maxRecDepth 8000
set_option maxHeartbeats 1000000
namespace Go.Proofs.Ytbafnjniijodfaa
open Go.Esp
theorem F.ok53 : okFn Try.prog 53 = true := by kernel_rfl
theorem F.ok55 : okFn Try.prog 55 = true := by kernel_rfl
theorem F.ok60 : okFn Try.prog 60 = true := by kernel_rfl
theorem F.ok73 : okFn Try.prog 73 = true := by kernel_rfl
theorem F.ok74 : okFn Try.prog 74 = true := by kernel_rfl
theorem F.ok80 : okFn Try.prog 80 = true := by kernel_rfl

theorem EqM_ok (M : Mem) (a : (Sl MarkV)) (b : (Sl MarkV)) (ha0 : SlK M MarkV.segs 6 a) (hb1 : SlK M MarkV.segs 6 b) : Fs Try.prog 60 [Sl.val a, Sl.val b] M (fun v => v = Value.bool (decide (a.l = b.l))) := by
  obtain ⟨a_a, a_c, a_l⟩ := a
  obtain ⟨b_a, b_c, b_l⟩ := b
  have k_a : SlK M MarkV.segs 6 ⟨a_a, a_c, a_l⟩ := ha0
  have s_a : SlM M a_a (a_l.map MarkV.segs) 6 := k_a.h1
  have n_a : (a_l.map MarkV.segs).length = a_l.length := List.length_map ..
  have m_a : a_l.length ≤ 9223372036854775807 := k_a.h2
  have c_a : a_l.length ≤ a_c := k_a.h3
  have k_b : SlK M MarkV.segs 6 ⟨b_a, b_c, b_l⟩ := hb1
  have s_b : SlM M b_a (b_l.map MarkV.segs) 6 := k_b.h1
  have n_b : (b_l.map MarkV.segs).length = b_l.length := List.length_map ..
  have m_b : b_l.length ≤ 9223372036854775807 := k_b.h2
  have c_b : b_l.length ≤ b_c := k_b.h3
  refine fs_enter Try.func60 rfl Try.ntmps60 rfl ?_; intro H
  refine C_seq ?_
  refine C_region (l := [0]) rfl ?_
  refine Y_assign ?_
  refine XD_end ?_
  refine K_then ?_
  iterate 2 refine C_seq ?_
  refine C_region (l := [0, 1, 2, 3, 4]) rfl ?_
  refine Y_move ?_
  refine Y_len_sl F.elem35 ?_
  refine Y_move ?_
  refine Y_len_sl F.elem35 ?_
  refine Y_cmp ?_
  refine XD_end ?_
  refine K_then ?_
  refine Y_pk [10, 4, 0, 1] ?_
  refine C_cond rfl (fun hc1 => ?_) (fun hc1 => ?_)
  ·replace hc1 := nT hc1
   refine C_seq ?_
   refine C_region (l := [0]) rfl ?_
   refine Y_assign ?_
   refine XD_end ?_
   refine K_then ?_
   refine Y_pk [4, 0, 1] ?_
   refine C_ret ?_
   refine K_ret ?_
   refine K_end (.inr rfl) (.tmp rfl .nil) (fun w hw => ?_)
   refine ⟨_, rfl, (hw.c), ?_⟩
   clear hw
   exact congrArg Value.bool (decide_eq_false (fun h9 => by have h8 : a_l.length = b_l.length := congrArg List.length h9; omega)).symm
  ·replace hc1 := nF hc1
   refine C_skip ?_
   refine K_then ?_
   refine Y_pk [4, 0, 1] ?_
   iterate 2 refine C_seq ?_
   refine C_region (l := [0, 1, 2]) rfl ?_
   refine Y_move ?_
   refine Y_len_sl F.elem35 ?_
   refine Y_move ?_
   refine XD_end ?_
   refine K_then ?_
   refine Y_pk [13, 12, 4, 0, 1] ?_
   refine C_block ?_
   refine Y_pk [13, 12, 4, 0, 1] ?_
   refine C_loopS (.succ .zero) (fun (k : Nat) z => z = [(13, .int .i64 (k : Int))] ∧ k ≤ a_l.length ∧ (∀ j (h2 : j < a_l.length) (h3 : j < b_l.length), j < k → a_l[j] = b_l[j])) (fun k => a_l.length - k) (0) (⟨rfl, by omega, by (intro j h2 h3 hj; omega)⟩) ?_
   rintro k _ ⟨rfl, hk, hI⟩
   refine C_seq ?_
   refine C_region (l := [0]) rfl ?_
   refine Y_cmp ?_
   refine XD_end ?_
   refine K_then ?_
   refine C_seq ?_
   refine C_cond rfl (fun hc2 => ?_) (fun hc2 => ?_)
   ·replace hc2 := dT hc2
    refine C_skip ?_
    refine K_then ?_
    refine C_seq ?_
    refine C_block ?_
    refine C_seq ?_
    refine C_region (l := [0, 1]) rfl ?_
    refine Y_move ?_
    refine Y_assign ?_
    refine XD_end ?_
    refine K_then ?_
    refine C_seq ?_
    refine C_region_any (l := [0, 1, 2, 3, 4, 5, 6, 7, 8]) #[0, 0, 3, 7, 0, 0, 48, 112, 255] _ rfl (by kernel_rfl) (by kernel_rfl) St.drawn (fun _ h => h) ?_
    iterate 2 refine Y_move ?_
    refine X_indexAddr rfl rfl rfl rfl F.elem35 (by rfl) (by omega) (by exact SlM.plain (by assumption) (by (simp; omega))) rfl ?_
    refine X_load_el rfl rfl rfl (by assumption) (by exact row_map (by omega)) F.lay70 rfl rfl rfl ?_
    iterate 2 refine Y_move ?_
    refine X_indexAddr rfl rfl rfl rfl F.elem35 (by rfl) (by omega) (by exact SlM.plain (by assumption) (by (simp; omega))) rfl ?_
    refine X_load_el rfl rfl rfl (by assumption) (by exact row_map (by omega)) F.lay70 rfl rfl rfl ?_
    refine X_same (m := 20) rfl rfl rfl rfl rfl (by constructor) (by constructor) F.lay70 F.kinds70 rfl F.guard70 (by exact FitMarkV _) (by exact FitMarkV _) rfl rfl rfl ?_; intro c3 he4
    replace he4 : c3 = true ↔ ¬ (Segs.cells _ = Segs.cells _) := he4
    obtain rfl := neD he4 (MarkV.inj (x := ⟨_, _, ⟨_, _, _, _⟩⟩) (y := ⟨_, _, ⟨_, _, _, _⟩⟩)); clear he4
    refine XD_end ?_
    refine K_then ?_
    refine C_cond rfl (fun hc5 => ?_) (fun hc5 => ?_)
    ·replace hc5 := nT hc5
     simp only [AnswerV.eta, MarkV.eta, CellV.eta, HeldV.eta, PeerV.eta] at hc5
     simp only [List.get_eq_getElem] at hc5
     refine C_seq ?_
     refine C_region (l := [0]) rfl ?_
     refine Y_assign ?_
     refine XD_end ?_
     refine K_then ?_
     refine C_ret ?_
     refine K_retB ?_
     iterate 2 refine K_ret ?_
     refine K_retB ?_
     refine K_ret ?_
     refine K_end (.inr rfl) (.tmp rfl .nil) (fun w hw => ?_)
     refine ⟨_, rfl, (hw.c), ?_⟩
     clear hw
     refine congrArg Value.bool (decide_eq_false (fun h9 => ?_)).symm
     replace h9 : a_l = b_l := h9
     exact absurd (by simp only [h9] : a_l[k] = b_l[k]) (by assumption)
    ·replace hc5 := nF hc5
     simp only [AnswerV.eta, MarkV.eta, CellV.eta, HeldV.eta, PeerV.eta] at hc5
     simp only [List.get_eq_getElem] at hc5
     refine C_skip ?_
     refine K_out ?_
     refine K_then ?_
     refine C_region (l := [0, 1]) rfl ?_
     refine X_ari rfl rfl rfl rfl rfl (by exact wrap_in (by decide) (by omega)) rfl ?_
     refine Y_move ?_
     refine XD_end ?_
     refine K_roundS (a' := [(13, _)]) (k + 1) (.cons (k := 13) rfl (.cons (k := 12) rfl (.cons (k := 4) rfl (.cons (k := 0) rfl (.cons (k := 1) rfl (.nil)))))) (fun w hw => by first | exact hw | exact hw.c) ?_ ?_
     ·refine ⟨rfl, by omega, ?_⟩
      (intro j h2 h3 hj; rcases Nat.lt_or_ge j k with h9 | h9; exact hI j h2 h3 h9; obtain rfl : j = k := (by omega); simp_all)
     ·omega
   ·replace hc2 := dF hc2
    refine C_exit ?_
    iterate 2 refine K_exit ?_
    refine K_hit ?_
    refine K_then ?_
    refine Y_pk [4] ?_
    refine C_seq ?_
    refine C_region (l := [0]) rfl ?_
    refine Y_assign ?_
    refine XD_end ?_
    refine K_then ?_
    refine C_ret ?_
    refine K_end (.inr rfl) (.tmp rfl .nil) (fun w hw => ?_)
    refine ⟨_, rfl, (hw.c), ?_⟩
    clear hw
    exact congrArg Value.bool (decide_eq_true (List.ext_getElem (by show a_l.length = b_l.length; omega) (fun j h2 h3 => hI j h2 h3 (by have : j < a_l.length := h2; omega)))).symm

theorem SameSp_ok (M : Mem) (a : CellV) (b : CellV) (ha0 : CellV.ok M a) (hb1 : CellV.ok M b) : Fs Try.prog 38 [a.enc, b.enc] M (fun v => v = Value.bool (decide (a.pl = b.pl))) := by
  obtain ⟨a_version, a_has, a_val, ⟨a_marks_a, a_marks_c, a_marks_l⟩⟩ := a
  obtain ⟨b_version, b_has, b_val, ⟨b_marks_a, b_marks_c, b_marks_l⟩⟩ := b
  have k_a_marks : SlK M MarkV.segs 6 ⟨a_marks_a, a_marks_c, a_marks_l⟩ := ha0.h0
  have s_a_marks : SlM M a_marks_a (a_marks_l.map MarkV.segs) 6 := k_a_marks.h1
  have n_a_marks : (a_marks_l.map MarkV.segs).length = a_marks_l.length := List.length_map ..
  have m_a_marks : a_marks_l.length ≤ 9223372036854775807 := k_a_marks.h2
  have c_a_marks : a_marks_l.length ≤ a_marks_c := k_a_marks.h3
  have k_b_marks : SlK M MarkV.segs 6 ⟨b_marks_a, b_marks_c, b_marks_l⟩ := hb1.h0
  have s_b_marks : SlM M b_marks_a (b_marks_l.map MarkV.segs) 6 := k_b_marks.h1
  have n_b_marks : (b_marks_l.map MarkV.segs).length = b_marks_l.length := List.length_map ..
  have m_b_marks : b_marks_l.length ≤ 9223372036854775807 := k_b_marks.h2
  have c_b_marks : b_marks_l.length ≤ b_marks_c := k_b_marks.h3
  refine fs_enter Try.func38 rfl Try.ntmps38 rfl ?_; intro H
  refine C_seq ?_
  refine C_region (l := [0, 1, 2]) rfl ?_
  refine Y_box ?_; intro b1
  refine Y_box ?_; intro b2
  refine Y_assign ?_
  refine XD_end ?_
  refine K_then ?_
  refine Y_pk [4, 3, 2] ?_
  refine C_seq ?_
  refine C_region (l := [0, 1, 2, 3, 4, 5, 6, 7, 8, 9, 10, 11, 12, 13, 14, 15, 16, 17, 18, 19, 20, 21, 22, 23, 24, 25, 26]) rfl ?_
  refine Y_fieldAddr F.foff37_0 ?_
  refine Y_load F.lay34 ?_
  refine Y_fieldAddr F.foff37_0 ?_
  refine Y_load F.lay34 ?_
  refine Y_cmp ?_
  refine Y_move ?_
  refine XD_part 10 rfl (fun hc3 => ?_) (fun hc3 => ?_)
  ·replace hc3 := dT hc3
   refine Y_fieldAddr F.foff37_1 ?_
   refine Y_load F.lay4 ?_
   refine Y_fieldAddr F.foff37_1 ?_
   refine Y_load F.lay4 ?_
   refine X_eqb rfl rfl rfl rfl rfl Try.underlying4 rfl ?_
   refine Y_pick ?_
   refine Y_move ?_
   refine XD_part 17 rfl (fun hc4 => ?_) (fun hc4 => ?_)
   ·replace hc4 := dT hc4
    refine Y_fieldAddr F.foff37_2 ?_
    refine Y_load F.lay9 ?_
    refine Y_fieldAddr F.foff37_2 ?_
    refine Y_load F.lay9 ?_
    refine Y_str ?_
    refine Y_pick ?_
    refine Y_move ?_
    refine XD_part 24 rfl (fun hc5 => ?_) (fun hc5 => ?_)
    ·replace hc5 := dT hc5
     refine Y_fieldAddr F.foff37_3 ?_
     refine Y_load F.lay35 ?_
     refine Y_fieldAddr F.foff37_3 ?_
     refine Y_load F.lay35 ?_
     refine X_fs rfl rfl F.ok60 rfl (EqM_ok _ ⟨_, _, _⟩ ⟨_, _, _⟩ (by assumption) (by assumption)) rfl ?_
     rintro _ rfl
     refine Y_pick ?_
     refine Y_assign ?_
     refine XD_end ?_
     refine K_then ?_
     refine Y_pk [4] ?_
     refine C_ret ?_
     refine K_end (.inr rfl) (.tmp rfl .nil) (fun w hw => ?_)
     refine ⟨_, rfl, (hw.c), ?_⟩
     clear hw
     refine congrArg Value.bool ?_
     exact decide_eq_decide.2 ⟨fun h9 => by simp_all [CellV.pl], fun h9 => congrArg Cel.marks h9⟩
    ·replace hc5 := dF hc5
     iterate 5 refine Y_skip ?_
     refine Y_pick ?_
     refine Y_assign ?_
     refine XD_end ?_
     refine K_then ?_
     refine Y_pk [4] ?_
     refine C_ret ?_
     refine K_end (.inr rfl) (.tmp rfl .nil) (fun w hw => ?_)
     refine ⟨_, rfl, (hw.c), ?_⟩
     clear hw
     refine congrArg Value.bool ?_
     exact (decide_eq_false (fun h9 => by have h8 := congrArg Cel.version h9; have h7 := congrArg Cel.has h9; have h6 := congrArg Cel.val h9; simp only [CellV.pl] at h8 h7 h6; first | omega | contradiction | (simp_all; done))).symm
   ·replace hc4 := dF hc4
    iterate 5 refine Y_skip ?_
    refine Y_pick ?_
    refine Y_move ?_
    iterate 5 refine Y_skip ?_
    refine Y_pick ?_
    refine Y_assign ?_
    refine XD_end ?_
    refine K_then ?_
    refine Y_pk [4] ?_
    refine C_ret ?_
    refine K_end (.inr rfl) (.tmp rfl .nil) (fun w hw => ?_)
    refine ⟨_, rfl, (hw.c), ?_⟩
    clear hw
    refine congrArg Value.bool ?_
    exact (decide_eq_false (fun h9 => by have h8 := congrArg Cel.version h9; have h7 := congrArg Cel.has h9; have h6 := congrArg Cel.val h9; simp only [CellV.pl] at h8 h7 h6; first | omega | contradiction | (simp_all; done))).symm
  ·replace hc3 := dF hc3
   iterate 5 refine Y_skip ?_
   refine Y_pick ?_
   refine Y_move ?_
   iterate 5 refine Y_skip ?_
   refine Y_pick ?_
   refine Y_move ?_
   iterate 5 refine Y_skip ?_
   refine Y_pick ?_
   refine Y_assign ?_
   refine XD_end ?_
   refine K_then ?_
   refine Y_pk [4] ?_
   refine C_ret ?_
   refine K_end (.inr rfl) (.tmp rfl .nil) (fun w hw => ?_)
   refine ⟨_, rfl, (hw.c), ?_⟩
   clear hw
   refine congrArg Value.bool ?_
   exact (decide_eq_false (fun h9 => by have h8 := congrArg Cel.version h9; have h7 := congrArg Cel.has h9; have h6 := congrArg Cel.val h9; simp only [CellV.pl] at h8 h7 h6; first | omega | contradiction | (simp_all; done))).symm

theorem last_ok (M : Mem) (a : CellV) (b : CellV) (ha0 : CellV.ok M a) (hb1 : CellV.ok M b) : Esp.Fn Try.prog 42 [a.enc, b.enc] M (fun M' v => ∃ c : CellV, v = c.enc ∧ c.pl = lastT a.pl b.pl ∧ CellV.ok M' c) := by
  obtain ⟨a_version, a_has, a_val, ⟨a_marks_a, a_marks_c, a_marks_l⟩⟩ := a
  obtain ⟨b_version, b_has, b_val, ⟨b_marks_a, b_marks_c, b_marks_l⟩⟩ := b
  have k_a_marks : SlK M MarkV.segs 6 ⟨a_marks_a, a_marks_c, a_marks_l⟩ := ha0.h0
  have s_a_marks : SlM M a_marks_a (a_marks_l.map MarkV.segs) 6 := k_a_marks.h1
  have n_a_marks : (a_marks_l.map MarkV.segs).length = a_marks_l.length := List.length_map ..
  have m_a_marks : a_marks_l.length ≤ 9223372036854775807 := k_a_marks.h2
  have c_a_marks : a_marks_l.length ≤ a_marks_c := k_a_marks.h3
  have k_b_marks : SlK M MarkV.segs 6 ⟨b_marks_a, b_marks_c, b_marks_l⟩ := hb1.h0
  have s_b_marks : SlM M b_marks_a (b_marks_l.map MarkV.segs) 6 := k_b_marks.h1
  have n_b_marks : (b_marks_l.map MarkV.segs).length = b_marks_l.length := List.length_map ..
  have m_b_marks : b_marks_l.length ≤ 9223372036854775807 := k_b_marks.h2
  have c_b_marks : b_marks_l.length ≤ b_marks_c := k_b_marks.h3
  refine fn_enter Try.func42 rfl Try.ntmps42 rfl ?_; intro H
  refine C_seq ?_
  refine C_region (l := [0, 1, 2]) rfl ?_
  refine Y_box ?_; intro b1
  refine Y_box ?_; intro b2
  refine Y_alloc F.zero37 ?_; intro b3
  refine XD_end ?_
  refine K_then ?_
  refine Y_pk [4, 3] ?_
  refine C_seq ?_
  refine C_region (l := [0, 1]) rfl ?_
  refine Y_load F.lay37 ?_
  refine Y_store F.lay37 ?_
  refine XD_end ?_
  refine K_then ?_
  refine Y_pk [4] ?_
  refine C_ret ?_
  refine K_end (.inr rfl) (.cell rfl (by repeat first | exact List.Mem.head _ | refine List.Mem.tail _ ?_ | refine List.mem_append_right _ ?_) F.lay37 rfl rfl .nil) (fun w hw => ?_)
  exact ⟨_, M, rfl, Mem.le.refl M, hw.c, ⟨b_version, b_has, b_val, ⟨b_marks_a, b_marks_c, b_marks_l⟩⟩, rfl, rfl, hb1⟩

theorem merged_ok (M : Mem) (a : CellV) (b : CellV) (ha0 : CellV.ok M a) (hb1 : CellV.ok M b) : Esp.Fn Try.prog 30 [a.enc, b.enc] M (fun M' v => ∃ c : CellV, v = c.enc ∧ c.pl = mergedT a.pl b.pl ∧ CellV.ok M' c) := by
  obtain ⟨a_version, a_has, a_val, ⟨a_marks_a, a_marks_c, a_marks_l⟩⟩ := a
  obtain ⟨b_version, b_has, b_val, ⟨b_marks_a, b_marks_c, b_marks_l⟩⟩ := b
  have k_a_marks : SlK M MarkV.segs 6 ⟨a_marks_a, a_marks_c, a_marks_l⟩ := ha0.h0
  have s_a_marks : SlM M a_marks_a (a_marks_l.map MarkV.segs) 6 := k_a_marks.h1
  have n_a_marks : (a_marks_l.map MarkV.segs).length = a_marks_l.length := List.length_map ..
  have m_a_marks : a_marks_l.length ≤ 9223372036854775807 := k_a_marks.h2
  have c_a_marks : a_marks_l.length ≤ a_marks_c := k_a_marks.h3
  have k_b_marks : SlK M MarkV.segs 6 ⟨b_marks_a, b_marks_c, b_marks_l⟩ := hb1.h0
  have s_b_marks : SlM M b_marks_a (b_marks_l.map MarkV.segs) 6 := k_b_marks.h1
  have n_b_marks : (b_marks_l.map MarkV.segs).length = b_marks_l.length := List.length_map ..
  have m_b_marks : b_marks_l.length ≤ 9223372036854775807 := k_b_marks.h2
  have c_b_marks : b_marks_l.length ≤ b_marks_c := k_b_marks.h3
  refine fn_enter Try.func30 rfl Try.ntmps30 rfl ?_; intro H
  refine C_seq ?_
  refine C_region (l := [0, 1, 2]) rfl ?_
  refine Y_box ?_; intro b1
  refine Y_box ?_; intro b2
  refine Y_alloc F.zero37 ?_; intro b3
  refine XD_end ?_
  refine K_then ?_
  refine Y_pk [4, 3, 2] ?_
  refine C_seq ?_
  refine C_region (l := [0, 1, 2, 3, 4, 5, 6, 7, 8]) rfl ?_
  iterate 2 refine Y_load F.lay37 ?_
  refine X_fn rfl rfl F.ok53 rfl (Merge_ok _ ⟨a_version, a_has, a_val, ⟨a_marks_a, a_marks_c, a_marks_l⟩⟩ ⟨b_version, b_has, b_val, ⟨b_marks_a, b_marks_c, b_marks_l⟩⟩ ha0 hb1) rfl ?_
  rintro _ M1 hm1 ⟨⟨c_v, c_h, c_s, ⟨c_a, c_c, c_l⟩⟩, rfl, hc, okc⟩
  refine Y_move ?_
  iterate 2 refine Y_extract ?_
  refine Y_alloc F.zero37 ?_; intro b4
  refine Y_store F.lay37 ?_
  refine Y_assign ?_
  refine XD_end ?_
  refine K_then ?_
  refine Y_pk [5, 4] ?_
  refine C_seq ?_
  refine C_region (l := [0, 1]) rfl ?_
  refine Y_load F.lay37 ?_
  refine Y_store F.lay37 ?_
  refine XD_end ?_
  refine K_then ?_
  refine Y_pk [4] ?_
  refine C_ret ?_
  refine K_end (.inr rfl) (.cell rfl (by repeat first | exact List.Mem.head _ | refine List.Mem.tail _ ?_ | refine List.mem_append_right _ ?_) F.lay37 rfl rfl .nil) (fun w hw => ?_)
  exact ⟨_, M1, rfl, hm1, hw.c, ⟨c_v, c_h, c_s, ⟨c_a, c_c, c_l⟩⟩, rfl, hc, okc⟩

theorem last_ok2 : TwoOk Try.prog 42 lastT := fun M a b ha hb => last_ok M a b ha hb

theorem merged_ok2 : TwoOk Try.prog 30 mergedT := fun M a b ha hb => merged_ok M a b ha hb

theorem row1_ok (M : Mem) (a : HeldV) (b : HeldV) : Fs Try.prog 55 [a.enc, b.enc] M (fun v => v = Value.int .i64 (lessH a b)) := by
  obtain ⟨a_key, ⟨a_cell_version, a_cell_has, a_cell_val, ⟨a_cell_marks_a, a_cell_marks_c, a_cell_marks_l⟩⟩⟩ := a
  obtain ⟨b_key, ⟨b_cell_version, b_cell_has, b_cell_val, ⟨b_cell_marks_a, b_cell_marks_c, b_cell_marks_l⟩⟩⟩ := b
  refine fs_enter Try.func55 rfl Try.ntmps55 rfl ?_; intro H
  refine C_seq ?_
  refine C_region (l := [0, 1, 2]) rfl ?_
  refine Y_box ?_; intro b1
  refine Y_box ?_; intro b2
  refine Y_assign ?_
  refine XD_end ?_
  refine K_then ?_
  refine Y_pk [4, 3, 2] ?_
  iterate 2 refine C_seq ?_
  refine C_region (l := [0, 1, 2, 3, 4]) rfl ?_
  refine Y_fieldAddr F.foff49_0 ?_
  refine Y_load F.lay33 ?_
  refine Y_fieldAddr F.foff49_0 ?_
  refine Y_load F.lay33 ?_
  refine X_fs rfl rfl F.ok46 rfl (Less_ok _ _ _) rfl ?_
  rintro _ rfl
  refine XD_end ?_
  refine K_then ?_
  refine Y_pk [9, 4] ?_
  refine C_cond rfl (fun hc3 => ?_) (fun hc3 => ?_)
  ·replace hc3 := dT hc3
   refine C_seq ?_
   refine C_region (l := [0]) rfl ?_
   refine Y_assign ?_
   refine XD_end ?_
   refine K_then ?_
   refine Y_pk [4] ?_
   refine C_ret ?_
   refine K_ret ?_
   refine K_end (.inr rfl) (.tmp rfl .nil) (fun w hw => ?_)
   refine ⟨_, rfl, (hw.c), ?_⟩
   clear hw
   refine congrArg (Value.int .i64) ?_
   unfold lessH
   exact (if_pos (by assumption)).symm
  ·replace hc3 := dF hc3
   refine C_skip ?_
   refine K_then ?_
   refine Y_pk [4] ?_
   refine C_seq ?_
   refine C_region (l := [0]) rfl ?_
   refine Y_assign ?_
   refine XD_end ?_
   refine K_then ?_
   refine C_ret ?_
   refine K_end (.inr rfl) (.tmp rfl .nil) (fun w hw => ?_)
   refine ⟨_, rfl, (hw.c), ?_⟩
   clear hw
   refine congrArg (Value.int .i64) ?_
   unfold lessH
   exact (if_neg (by assumption)).symm

theorem lessH_swo : Sort.SWO (ltOf lessH) := by
  have e : ∀ x y : HeldV, ltOf lessH x y = decide (LessP x.key y.key) := by
   intro x y; unfold ltOf lessH
   by_cases h : LessP x.key y.key <;> simp [h]
  exact ⟨fun x => by rw [e]; simp [LessP], fun x y z h1 h2 => by rw [e] at h1 h2 ⊢; exact decide_eq_true (Nat.lt_trans (of_decide_eq_true h1) (of_decide_eq_true h2)), fun x y z h1 h2 => by rw [e] at h1 h2 ⊢; exact decide_eq_false (Nat.not_lt.2 (Nat.le_trans (Nat.not_lt.1 (of_decide_eq_false h2)) (Nat.not_lt.1 (of_decide_eq_false h1))))⟩

instance : Inhabited HeldV := ⟨HeldV.zero⟩

theorem InsH_nil (M : Mem) (g : FuncId) : Fs Try.prog 80 [.slice none 0 0, .int .i64 0, .int .i64 0, .func (.func g) #[] #[]] M (fun v => v = .tuple #[]) := by
  refine fs_enter Try.func80 rfl Try.ntmps80 rfl ?_; intro H
  refine C_seq ?_
  refine C_region (l := [0, 1, 2]) rfl ?_
  refine Y_move ?_
  refine X_ari rfl rfl rfl rfl rfl (by exact wrap_in (by decide) (by omega)) rfl ?_
  refine Y_assign ?_
  refine XD_end ?_
  refine K_then ?_
  refine Y_pk [8, 0, 1, 2, 3] ?_
  refine C_block ?_
  refine Y_pk [8, 0, 1, 2, 3] ?_
  refine C_loopS (.succ .zero) (fun (_ : Nat) z => z = [(8, .int .i64 1)]) (fun _ => 1) (0) (rfl) ?_
  rintro _ _ rfl
  iterate 2 refine C_seq ?_
  refine C_region (l := [0, 1, 2]) rfl ?_
  iterate 2 refine Y_move ?_
  refine Y_cmp ?_
  refine XD_end ?_
  refine K_then ?_
  refine C_cond rfl (fun hc1 => ?_) (fun hc1 => ?_)
  ·replace hc1 := dT hc1
   (exfalso; omega)
  ·replace hc1 := dF hc1
   refine C_exit ?_
   iterate 2 refine K_exit ?_
   refine K_hit ?_
   refine K_end (.inl rfl) (.nil) (fun w hw => ?_)
   exact ⟨_, rfl, hw.c, rfl⟩

theorem PdqH_nil (M : Mem) (g : FuncId) (lim : Int) : Fs Try.prog 73 [.slice none 0 0, .int .i64 0, .int .i64 0, .int .i64 lim, .func (.func g) #[] #[]] M (fun v => v = .tuple #[]) := by
  refine fs_enter Try.func73 rfl Try.ntmps73 rfl ?_; intro H
  refine C_seq ?_
  refine C_region (l := [0]) rfl ?_
  refine Y_assign ?_
  refine XD_end ?_
  refine K_then ?_
  refine C_seq ?_
  refine C_region (l := [0]) rfl ?_
  refine Y_assign ?_
  refine XD_end ?_
  refine K_then ?_
  refine C_block ?_
  refine Y_pk [1, 2, 3, 10, 11, 0, 4] ?_
  refine C_loopS (.succ (.succ (.succ (.succ (.succ .zero))))) (fun (_ : Nat) z => z = [(1, .int .i64 0), (2, .int .i64 0), (3, .int .i64 lim), (10, .bool true), (11, .bool true)]) (fun _ => 1) (0) (rfl) ?_
  rintro _ _ rfl
  refine C_block ?_
  refine C_seq ?_
  refine C_region (l := [0, 1, 2, 3]) rfl ?_
  iterate 2 refine Y_move ?_
  refine X_ari rfl rfl rfl rfl rfl (by exact wrap_in (by decide) (by omega)) rfl ?_
  refine Y_assign ?_
  refine XD_end ?_
  refine K_then ?_
  iterate 2 refine C_seq ?_
  refine C_region (l := [0, 1]) rfl ?_
  refine Y_move ?_
  refine Y_cmp ?_
  refine XD_end ?_
  refine K_then ?_
  refine C_cond rfl (fun hc1 => ?_) (fun hc1 => ?_)
  ·replace hc1 := dT hc1
   refine C_seq ?_
   refine C_region (l := [0, 1, 2, 3, 4]) rfl ?_
   iterate 4 refine Y_move ?_
   refine X_fs rfl rfl F.ok80 rfl (InsH_nil M g) rfl ?_
   rintro _ rfl
   refine XD_end ?_
   refine K_then ?_
   refine Y_pk [29, 28, 27, 26, 25, 24, 12, 23, 22, 21, 1, 2, 3, 10, 11, 0, 4] ?_
   refine C_ret ?_
   refine K_ret ?_
   refine K_retB ?_
   refine K_ret ?_
   refine K_retB ?_
   refine K_end (.inr rfl) (.nil) (fun w hw => ?_)
   exact ⟨_, rfl, hw.c, rfl⟩
  ·replace hc1 := dF hc1
   (exfalso; omega)

theorem LenH_nil (M : Mem) : Fs Try.prog 74 [.int .u64 0] M (fun v => v = .int .i64 (Lib.bitLen 0)) := fun H w hw => (Any.bits_Len (SlLaysF0.n15.bits (P := Try.prog) (ρ := Try.sortL_ren) { Try.sortL with }) 0 w (by omega) (by omega)).mono fun _ _ ⟨he, hw2⟩ => ⟨_, he, by rw [hw2]; exact hw, rfl⟩

theorem SortH_nil (M : Mem) (g : FuncId) : Fs Try.prog 54 [.slice none 0 0, .func (.func g) #[] #[]] M (fun v => v = .tuple #[]) := by
  refine fs_enter Try.func54 rfl Try.ntmps54 rfl ?_; intro H
  refine C_seq ?_
  refine C_region (l := [0, 1, 2]) rfl ?_
  refine Y_move ?_
  refine Y_len_sl F.elem31 ?_
  refine Y_assign ?_
  refine XD_end ?_
  refine K_then ?_
  refine Y_pk [4, 0, 1] ?_
  refine C_region (l := [0, 1, 2, 3, 4, 5, 6]) rfl ?_
  iterate 3 refine Y_move ?_
  refine X_conv rfl rfl rfl Try.underlying3 Try.underlying102 (by exact wrap_u64_in (by decide) (by omega)) rfl ?_
  refine X_fs rfl rfl F.ok74 rfl (LenH_nil M) rfl ?_
  rintro _ rfl
  refine Y_move ?_
  refine X_fs rfl rfl F.ok73 rfl (PdqH_nil M g _) rfl ?_
  rintro _ rfl
  refine XD_end ?_
  refine K_end (.inl rfl) (.nil) (fun w hw => ?_)
  exact ⟨_, rfl, hw.c, rfl⟩

theorem SortH_ok (M : Mem) (a : Option Addr) (c : Nat) (l : List HeldV) (hs : Hp) (ho : OSl 49 24 (.slice a l.length c) hs (l.map HeldV.segs)) (hl : l.length ≤ 1000000) : Fh Try.prog 54 [.slice a l.length c, .func (.func 55) #[] #[]] M hs (fun M' v Hout => M' = M ∧ v = .tuple #[] ∧ ∃ l' : List HeldV, l'.Perm l ∧ l'.Pairwise (fun x y => ¬ lessH y x < 0) ∧ OSl 49 24 (.slice a l.length c) Hout (l'.map HeldV.segs)) := by
  cases a with
  |none =>
   obtain ⟨rfl, rfl, rfl⟩ := ho.noneAll
   exact fun H w hw => (SortH_nil M 55 H w hw).mono fun e w' ⟨v, he, hst, hv⟩ => ⟨v, M, [], he, Mem.le.refl M, hst, rfl, hv, [], .refl _, .nil, OSl.nil⟩
  |some ad =>
   obtain ⟨b, rfl⟩ := ho.someAll
   exact sort_fh (f := HeldV.segs) (sz := 24) Try.sortL Try.isAgg49 Try.sizeOf49 (by decide) (fun x => (Segs.cells_length _).trans (HeldV.len x)) (fun x => HeldV.flat x) lessH lessH_swo 55 F.ok55 (fun M x y => row1_ok M x y) ho hl M

end Go.Proofs.Ytbafnjniijodfaa
/-
  A cell put into a map.
-/
set_option linter.unusedSimpArgs false
set_option linter.unusedVariables false
set_option linter.unnecessarySimpa false
set_option maxRecDepth 8000
set_option maxHeartbeats 1000000
namespace Go.Proofs.Ytbafnjniijodfaa
open Go.Esp
theorem F.foff59_0 : foff Try.prog 59 0 = some 0 := by kernel_rfl
theorem F.foff59_1 : foff Try.prog 59 1 = some 1 := by kernel_rfl
theorem F.lay56 : lay Try.prog 56 = some (false, 1) := by kernel_rfl
theorem F.lay57 : lay Try.prog 57 = some (false, 1) := by kernel_rfl
theorem F.zidk : IdK Try.prog 33 5 [.i .u8, .i .u8, .i .u8, .i .u8, .i .u8, .i .u8, .i .u8, .i .u8, .i .u8, .i .u8, .i .u8, .i .u8, .i .u8, .i .u8, .i .u8, .i .u8, .i .u8, .i .u8, .i .u8, .i .u8] := ⟨Try.underlying33, Try.underlying5, (by obtain ⟨d, i, _, h2, h3, _⟩ := lay_spec F.lay5; exact ⟨i, h2, h3⟩), F.kinds33, fun x => fit_id fit_nil⟩

theorem bput_ok (M : Mem) (bm : Nat) (m : PM CellV) (om : Obj) (hom : pmO CellV.enc om m) (hmo : ∀ p ∈ m, CellV.ok M p.2) (two : Cel → Cel → Cel) (gt : FuncId) (hgt : okFn Try.prog gt = true) (htwo : TwoOk Try.prog gt two) (key : Plc) (c : CellV) (hc0 : CellV.ok M c) : Fh Try.prog 52 [aggV [.one (.map (some bm)), .one (.func (.func gt) #[] #[])], aggV [idSeg key], CellV.enc c] M [(bm, om)] (fun M' v Hout => v = .tuple #[] ∧ ∃ (c' : CellV) (om' : Obj), Hout = [(bm, om')] ∧ pmO CellV.enc om' (pmPut m key c') ∧ (c'.pl = match findS (mpl m) key with | some x => two x c.pl | none => c.pl) ∧ CellV.ok M' c') := by
  obtain ⟨c_v, c_h, c_s, ⟨c_a, c_c, c_l⟩⟩ := c
  refine fh_enter Try.func52 rfl Try.ntmps52 rfl ?_; intro H
  refine C_seq ?_
  refine C_region (l := [0, 1, 2]) rfl ?_
  refine Y_box ?_; intro b1
  refine Y_box ?_; intro b2
  refine Y_box ?_; intro b3
  refine XD_end ?_
  refine K_then ?_
  refine Y_pk [5, 4, 3] ?_
  iterate 2 refine C_seq ?_
  refine C_region (l := [0, 1, 2, 3, 4, 5, 6, 7, 8, 9]) rfl ?_
  refine Y_fieldAddr F.foff59_0 ?_
  refine Y_load F.lay56 ?_
  refine Y_load F.lay33 ?_
  obtain ⟨xg, hxg⟩ : ∃ x, (pmGet m key).getD CellV.zero = x := ⟨_, rfl⟩
  obtain ⟨ib, hib⟩ : ∃ b, (pmGet m key).isSome = b := ⟨_, rfl⟩
  refine X_lookup2P (z := CellV.zero) rfl rfl rfl rfl F.zidk Try.underlying56 (show _ = some (CellV.enc CellV.zero) from F.zero37) (by repeat first | exact List.Mem.head _ | refine List.Mem.tail _ ?_ | refine List.mem_append_right _ ?_) hom rfl ?_
  rw [hxg, hib]
  obtain ⟨x_v, x_h, x_s, ⟨x_a, x_c, x_l⟩⟩ := xg
  refine Y_move ?_
  iterate 2 refine Y_extract ?_
  refine Y_alloc F.zero37 ?_; intro b4
  refine Y_store F.lay37 ?_
  refine Y_assign ?_
  refine XD_end ?_
  refine K_then ?_
  refine Y_pk [7, 6, 5, 4, 3] ?_
  refine C_seq ?_
  refine C_region (l := [0]) rfl ?_
  refine Y_move ?_
  refine XD_end ?_
  refine K_then ?_
  refine Y_pk [15, 6, 5, 4, 3] ?_
  refine C_cond rfl (fun hc5 => ?_) (fun hc5 => ?_)
  ·skip
   have hgx : pmGet m key = some ⟨x_v, x_h, x_s, ⟨x_a, x_c, x_l⟩⟩ := by
    have h9 : (pmGet m key).isSome = true := by rw [hib]; assumption
    obtain ⟨x9, hx9⟩ := Option.isSome_iff_exists.1 h9
    rw [hx9] at hxg ⊢
    exact congrArg some hxg
   have okx := hmo _ (pmGet_mem hgx)
   refine C_region (l := [0, 1, 2, 3, 4, 5]) rfl ?_
   refine Y_fieldAddr F.foff59_1 ?_
   refine Y_load F.lay57 ?_
   iterate 2 refine Y_load F.lay37 ?_
   refine X_foV (caps := []) rfl rfl rfl hgt rfl rfl ((htwo M ⟨x_v, x_h, x_s, ⟨x_a, x_c, x_l⟩⟩ ⟨c_v, c_h, c_s, ⟨c_a, c_c, c_l⟩⟩ okx hc0).fo []) (Rem.here _) (putE_some rfl) ?_
   rintro _ M1 hm1 ⟨⟨y_v, y_h, y_s, ⟨y_a, y_c, y_l⟩⟩, rfl, hy, oky⟩
   refine Y_store F.lay37 ?_
   refine XD_end ?_
   refine K_then ?_
   refine Y_pk [5, 4, 3] ?_
   refine C_region (l := [0, 1, 2, 3, 4]) rfl ?_
   refine Y_fieldAddr F.foff59_0 ?_
   refine Y_load F.lay56 ?_
   refine Y_load F.lay33 ?_
   refine Y_load F.lay37 ?_
   refine X_mapUpdateP (v := (⟨y_v, y_h, y_s, ⟨y_a, y_c, y_l⟩⟩ : CellV)) rfl rfl rfl rfl rfl F.zidk Try.underlying56 hom (by repeat first | exact List.Mem.head _ | refine List.Mem.tail _ ?_ | refine List.mem_append_right _ ?_) ?_; intro o2 him2; refine ⟨_, (by repeat first | exact Upd.head | apply Upd.tail | apply Upd.over), ?_⟩
   refine XD_end ?_
   refine K_end (.inl rfl) (.nil) (fun w hw => ?_)
   exact ⟨_, M1, [(bm, o2)], rfl, hm1, hw.c, rfl, ⟨y_v, y_h, y_s, ⟨y_a, y_c, y_l⟩⟩, o2, rfl, him2, by rw [← mpl_get, hgx]; exact hy, oky⟩
  ·skip
   refine C_skip ?_
   refine K_then ?_
   refine Y_pk [5, 4, 3] ?_
   refine C_region (l := [0, 1, 2, 3, 4]) rfl ?_
   refine Y_fieldAddr F.foff59_0 ?_
   refine Y_load F.lay56 ?_
   refine Y_load F.lay33 ?_
   refine Y_load F.lay37 ?_
   refine X_mapUpdateP (v := (⟨c_v, c_h, c_s, ⟨c_a, c_c, c_l⟩⟩ : CellV)) rfl rfl rfl rfl rfl F.zidk Try.underlying56 hom (by repeat first | exact List.Mem.head _ | refine List.Mem.tail _ ?_ | refine List.mem_append_right _ ?_) ?_; intro o2 him2; refine ⟨_, (by repeat first | exact Upd.head | apply Upd.tail | apply Upd.over), ?_⟩
   refine XD_end ?_
   refine K_end (.inl rfl) (.nil) (fun w hw => ?_)
   have hgn : pmGet m key = none := by
    have h9 : (pmGet m key).isSome = false := by rw [hib]; assumption
    simpa using h9
   exact ⟨_, M, [(bm, o2)], rfl, Mem.le.refl M, hw.c, rfl, ⟨c_v, c_h, c_s, ⟨c_a, c_c, c_l⟩⟩, o2, rfl, him2, by rw [← mpl_get, hgn]; rfl, hc0⟩

end Go.Proofs.Ytbafnjniijodfaa
/-
  Stores put into a map.
-/
set_option linter.unusedSimpArgs false
set_option linter.unusedVariables false
set_option linter.unnecessarySimpa false
set_option maxRecDepth 8000
set_option maxHeartbeats 1000000
namespace Go.Proofs.Ytbafnjniijodfaa
open Go.Esp
theorem F.bld59 : Bld Try.prog 59 [[.one (.map none)], [.one .nilFunc]] := ⟨by kernel_rfl, by kernel_rfl⟩
theorem F.elem23 : slOf Try.prog 23 = some (31, 1, 24) := by kernel_rfl
theorem F.lay31 : lay Try.prog 31 = some (false, 1) := by kernel_rfl
theorem F.lay59 : lay Try.prog 59 = some (true, 2) := by kernel_rfl
theorem F.ok52 : okFn Try.prog 52 = true := by kernel_rfl
theorem F.zero59 : zeroOf Try.prog 59 = some (aggV [.one (.map none), .one .nilFunc]) := by kernel_rfl

theorem bof_ok (M : Mem) (all : Sl (Sl HeldV)) (two : Cel → Cel → Cel) (gt : FuncId) (hgt : okFn Try.prog gt = true) (htwo : TwoOk Try.prog gt two) (k_all : SlK M (fun x => [.one (Sl.val x)]) 1 all) (hall : ∀ s ∈ all.l, SlK M HeldV.segs 24 s ∧ ∀ h ∈ s.l, HeldV.ok M h) (hcel : ∀ s ∈ all.l, ∀ h ∈ s.l, IsCel h.cell.pl) (ht : Keeps2 two) : Fh Try.prog 29 [.func (.func gt) #[] #[], Sl.val all] M [] (fun M' v Hout => ∃ (bm : Nat) (om : Obj) (m : PM CellV), v = aggV [.one (.map (some bm)), .one (.func (.func gt) #[] #[])] ∧ Hout = [(bm, om)] ∧ pmO CellV.enc om m ∧ (mpl m).Perm (ofS two (all.l.map fun s => pls s.l)) ∧ ∀ p ∈ m, CellV.ok M' p.2) := by
  obtain ⟨all_a, all_c, all_l⟩ := all
  simp only at hall hcel
  have s_all := k_all.h1
  simp only at s_all
  have m_all : all_l.length ≤ 9223372036854775807 := k_all.h2
  have n_all : (all_l.map fun x => ([.one (Sl.val x)] : Segs)).length = all_l.length := List.length_map ..
  refine fh_enter Try.func29 rfl Try.ntmps29 rfl ?_; intro H
  refine C_seq ?_
  refine C_region (l := [0]) rfl ?_
  refine Y_alloc F.zero59 ?_; intro b1
  refine XD_end ?_
  refine K_then ?_
  refine C_seq ?_
  refine C_region (l := [0, 1, 2, 3, 4]) rfl ?_
  refine X_makeMap rfl rfl rfl ?_; intro b2
  refine Y_move ?_
  refine X_build rfl rfl F.bld59 (.cons rfl (by constructor) (.cons rfl (by constructor) .nil)) rfl rfl ?_
  refine Y_alloc F.zero59 ?_; intro b3
  refine Y_store F.lay59 ?_
  refine XD_end ?_
  refine K_then ?_
  refine Y_pk [5, 4, 1] ?_
  iterate 2 refine C_seq ?_
  refine C_region (l := [0, 1, 2]) rfl ?_
  refine Y_move ?_
  refine Y_len_sl F.elem23 ?_
  refine Y_move ?_
  refine XD_end ?_
  refine K_then ?_
  refine Y_pk [15, 14, 13, 5, 4] ?_
  refine C_block ?_
  refine Y_pk [15, 14, 13, 5, 4] ?_
  refine C_loopO (Hin := [(b2, .map #[] 0)]) (.succ .zero) (by repeat first | exact Rem.here _ | exact Rem.two | apply Rem.skip | apply Rem.over) (fun (k : Nat) M1 h1 z => ∃ (m : PM CellV) (om : Obj), z = [(15, .int .i64 (k : Int))] ∧ k ≤ all_l.length ∧ h1 = [(b2, om)] ∧ pmO CellV.enc om m ∧ (mpl m).Perm (ofS two ((all_l.map fun s : Sl HeldV => pls s.l).take (k))) ∧ ∀ p ∈ m, CellV.ok M1 p.2) (fun k => all_l.length - k) (0) (⟨[], _, rfl, by omega, rfl, pmO.nil _, by simp [ofS, mpl], fun p hp => by cases hp⟩) ?_
  rintro k M1 h1 z hm1 ⟨m, om, rfl, hk, rfl, hom, hpm, hmo⟩
  have s_all1 := s_all.mono hm1
  refine C_seq ?_
  refine C_region (l := [0]) rfl ?_
  refine Y_cmp ?_
  refine XD_end ?_
  refine K_then ?_
  refine C_seq ?_
  refine C_cond rfl (fun hc4 => ?_) (fun hc4 => ?_)
  ·replace hc4 := dT hc4
   refine C_skip ?_
   refine K_then ?_
   refine C_seq ?_
   refine C_block ?_
   refine C_seq ?_
   refine C_region (l := [0, 1, 2]) rfl ?_
   refine X_indexAddr rfl rfl rfl rfl F.elem23 (by rfl) (by omega) (by exact SlM.plain (by assumption) (by (simp; omega))) rfl ?_
   refine X_load_el rfl rfl rfl (by assumption) (by exact row_map (by omega)) F.lay31 rfl rfl rfl ?_
   obtain ⟨⟨q_a, q_c, q_l⟩, hq⟩ : ∃ q, all_l[k]'(by omega) = q := ⟨_, rfl⟩
   rw [hq]
   have hqm : (⟨q_a, q_c, q_l⟩ : Sl HeldV) ∈ all_l := by rw [← hq]; exact List.getElem_mem (by omega)
   obtain ⟨k_q, l_q⟩ := hall _ hqm
   have hcq := hcel _ hqm
   try simp only at l_q hcq
   have s_q1 := k_q.h1.mono hm1
   try simp only at s_q1
   have m_q : q_l.length ≤ 9223372036854775807 := k_q.h2
   have n_q : (q_l.map HeldV.segs).length = q_l.length := List.length_map ..
   refine Y_assign ?_
   refine XD_end ?_
   refine K_then ?_
   refine C_seq ?_
   refine C_region (l := [0, 1, 2]) rfl ?_
   refine Y_move ?_
   refine Y_len_sl F.elem31 ?_
   refine Y_move ?_
   refine XD_end ?_
   refine K_then ?_
   refine C_block ?_
   refine Y_pk [21, 20, 19, 7, 18, 17, 16, 15, 14, 13, 5, 4] ?_
   refine C_loopO (Hin := [(b2, om)]) (.succ .zero) (by repeat first | exact Rem.here _ | exact Rem.two | apply Rem.skip | apply Rem.over) (fun (j : Nat) M2 h2 z => ∃ (m2 : PM CellV) (om2 : Obj), z = [(21, .int .i64 (j : Int))] ∧ j ≤ q_l.length ∧ h2 = [(b2, om2)] ∧ pmO CellV.enc om2 m2 ∧ (mpl m2).Perm ((pls (q_l.take (j))).foldl (blendS two) (ofS two ((all_l.map fun s : Sl HeldV => pls s.l).take (k)))) ∧ ∀ p ∈ m2, CellV.ok M2 p.2) (fun j => q_l.length - j) (0) (⟨m, om, rfl, by omega, rfl, hom, by simpa [pls] using hpm, hmo⟩) ?_
   rintro j M2 h2 z hm2 ⟨m2, om2, rfl, hj, rfl, hom2, hpm2, hmo2⟩
   have s_q2 := s_q1.mono hm2
   try simp only at s_q2
   refine C_seq ?_
   refine C_region (l := [0]) rfl ?_
   refine Y_cmp ?_
   refine XD_end ?_
   refine K_then ?_
   refine C_seq ?_
   refine C_cond rfl (fun hc5 => ?_) (fun hc5 => ?_)
   ·replace hc5 := dT hc5
    refine C_skip ?_
    refine K_then ?_
    refine C_seq ?_
    refine C_block ?_
    refine C_seq ?_
    refine C_region (l := [0, 1, 2, 3]) rfl ?_
    refine X_indexAddr rfl rfl rfl rfl F.elem31 (by rfl) (by omega) (by exact SlM.plain (by assumption) (by (simp; omega))) rfl ?_
    refine X_load_el rfl rfl rfl (by assumption) (by exact row_map (by omega)) F.lay49 rfl rfl rfl ?_
    refine Y_alloc F.zero49 ?_; intro b6
    refine Y_store F.lay49 ?_
    refine XD_end ?_
    refine K_then ?_
    refine C_regionR (l := [0, 1, 2, 3, 4, 5]) (Hin := [(b2, om2)]) (by repeat first | exact Rem.here _ | exact Rem.two | apply Rem.skip | apply Rem.over) rfl ?_
    refine Y_load F.lay59 ?_
    refine Y_fieldAddr F.foff49_0 ?_
    refine Y_load F.lay33 ?_
    refine Y_fieldAddr F.foff49_1 ?_
    refine Y_load F.lay37 ?_
    refine X_fhR rfl rfl F.ok52 rfl (bput_ok _ b2 m2 om2 hom2 hmo2 two gt hgt htwo q_l[j].key q_l[j].cell ((l_q _ (List.getElem_mem (by omega))).h0.mono (hm1.trans hm2))) (by repeat first | exact Rem.here _ | exact Rem.two | apply Rem.skip | apply Rem.over) (fun _ _ _ hm hw => (hw.lower (by exact hm)).c) (putE_some rfl) ?_
    rintro _ M3 _ hm3 ⟨rfl, c9, om3, rfl, hom3, hc9, okc9⟩
    refine XD_end ?_
    refine K_out ?_
    refine K_then ?_
    refine Y_pk [29, 28, 27, 26, 25, 9, 24, 23, 22, 21, 20, 19, 7, 18, 17, 16, 15, 14, 13, 5, 4] ?_
    refine C_region (l := [0, 1]) rfl ?_
    refine X_ari rfl rfl rfl rfl rfl (by exact wrap_in (by decide) (by omega)) rfl ?_
    refine Y_move ?_
    refine XD_end ?_
    refine K_roundO (a' := [(21, _)]) (j + 1) ([(b2, om3)]) (.cons (k := 21) rfl (.cons (k := 20) rfl (.cons (k := 19) rfl (.cons (k := 7) rfl (.cons (k := 18) rfl (.cons (k := 17) rfl (.cons (k := 16) rfl (.cons (k := 15) rfl (.cons (k := 14) rfl (.cons (k := 13) rfl (.cons (k := 5) rfl (.cons (k := 4) rfl (.nil))))))))))))) (hm2.trans hm3) (fun w hw => by first | exact hw | exact hw.c) ?_ ?_
    ·refine ⟨pmPut m2 q_l[j].key c9, om3, rfl, by omega, rfl, hom3, ?_, fun p hp => ?_⟩
     ·have hSj : StOk ((pls (q_l.take (j))).foldl (blendS two) (ofS two ((all_l.map fun s : Sl HeldV => pls s.l).take (k)))) := foldB_ok ht (ofS_ok ht (fun s hs x hx => by
       obtain ⟨s9, h1, rfl⟩ := List.mem_map.1 (List.mem_of_mem_take hs)
       obtain ⟨y, hy, rfl⟩ := List.mem_map.1 hx
       exact hcel s9 h1 y hy)) (fun x hx => by
       obtain ⟨y, hy, rfl⟩ := List.mem_map.1 hx
       exact hcq y (List.mem_of_mem_take hy))
      have h9 := blend_map ht hSj hpm2 (k := q_l[j].key) (c := q_l[j].cell) (hcq _ (List.getElem_mem (by omega))) hc9
      have e9 : ((pls (q_l.take (j + 1))).foldl (blendS two) (ofS two ((all_l.map fun s : Sl HeldV => pls s.l).take (k)))) = blendS two ((pls (q_l.take (j))).foldl (blendS two) (ofS two ((all_l.map fun s : Sl HeldV => pls s.l).take (k)))) ⟨q_l[j].key, q_l[j].cell.pl⟩ := by
       unfold pls
       rw [List.map_take, List.map_take, foldB_step (by simpa using (show j < q_l.length by omega)), List.getElem_map]; rfl
      rw [e9]
      exact h9
     ·rcases put_mem hp with rfl | hp
      ·exact okc9
      ·exact (hmo2 p hp).mono hm3
    ·omega
   ·replace hc5 := dF hc5
    refine C_exit ?_
    iterate 2 refine K_exit ?_
    refine K_hit ?_
    refine K_out ?_
    refine K_then ?_
    refine C_region (l := [0, 1]) rfl ?_
    refine X_ari rfl rfl rfl rfl rfl (by exact wrap_in (by decide) (by omega)) rfl ?_
    refine Y_move ?_
    refine XD_end ?_
    refine K_roundO (a' := [(15, _)]) (k + 1) ([(b2, om2)]) (.cons (k := 15) rfl (.cons (k := 14) rfl (.cons (k := 13) rfl (.cons (k := 5) rfl (.cons (k := 4) rfl (.nil)))))) (hm1.trans hm2) (fun w hw => by first | exact hw | exact hw.c) ?_ ?_
    ·refine ⟨m2, om2, rfl, by omega, rfl, hom2, ?_, hmo2⟩
     obtain rfl : j = q_l.length := by omega
     rw [List.take_length] at hpm2
     rw [ofS_step (by simpa using (show k < all_l.length by omega))]
     have e9 : (all_l.map fun s : Sl HeldV => pls s.l)[k]'(by simpa using (show k < all_l.length by omega)) = pls q_l := by rw [List.getElem_map, hq]
     rw [e9]
     exact hpm2
    ·omega
  ·replace hc4 := dF hc4
   refine C_exit ?_
   iterate 2 refine K_exit ?_
   refine K_hit ?_
   refine K_then ?_
   refine Y_pk [5, 4] ?_
   refine C_seq ?_
   refine C_region (l := [0, 1]) rfl ?_
   refine Y_load F.lay59 ?_
   refine Y_store F.lay59 ?_
   refine XD_end ?_
   refine K_then ?_
   refine Y_pk [4] ?_
   refine C_ret ?_
   refine K_end (.inr rfl) (.cell rfl (by repeat first | exact List.Mem.head _ | refine List.Mem.tail _ ?_ | refine List.mem_append_right _ ?_) F.lay59 rfl rfl .nil) (fun w hw => ?_)
   obtain rfl : k = all_l.length := by omega
   rw [List.take_of_length_le (by simp)] at hpm
   exact ⟨_, M1, [(b2, om)], rfl, hm1, hw.c, b2, om, m, rfl, rfl, hom, hpm, hmo⟩

end Go.Proofs.Ytbafnjniijodfaa
/-
  A map of cells as a row.
-/
set_option linter.unusedSimpArgs false
set_option linter.unusedVariables false
set_option linter.unnecessarySimpa false
set_option maxRecDepth 8000
set_option maxHeartbeats 1000000
namespace Go.Proofs.Ytbafnjniijodfaa
open Go.Esp
theorem F.bld49 : Bld Try.prog 49 [[idSeg 0], [.one (.int .u64 0), .one (.bool false), .one (.string ⟨#[]⟩), .one (.slice none 0 0)]] := by rw [idSeg0]; exact ⟨by kernel_rfl, by kernel_rfl⟩
theorem F.ok54 : okFn Try.prog 54 = true := by kernel_rfl
theorem F.zero33 : zeroOf Try.prog 33 = some (aggV [idSeg 0]) := by rw [idSeg0]; kernel_rfl

theorem brow_ok (M : Mem) (bm : Nat) (m : PM CellV) (om : Obj) (hom : pmO CellV.enc om m) (hmo : ∀ p ∈ m, CellV.ok M p.2) (gt : FuncId) (S : List Hd) (hS : StOk S) (hpm : (mpl m).Perm S) : Fh Try.prog 31 [aggV [.one (.map (some bm)), .one (.func (.func gt) #[] #[])]] M [(bm, om)] (fun M' v Hout => Hout = [] ∧ StE M' v (fullR S)) := by
  have hms : m.length = S.length := by have := hpm.length_eq; simpa [mpl] using this
  refine fh_enter Try.func31 rfl Try.ntmps31 rfl ?_; intro H
  refine C_seq ?_
  refine C_region (l := [0, 1, 2]) rfl ?_
  refine Y_box ?_; intro b1
  iterate 2 refine Y_assign ?_
  refine XD_end ?_
  refine K_then ?_
  refine Y_pk [3, 2, 1] ?_
  iterate 2 refine C_seq ?_
  refine C_region (l := [0, 1, 2, 3]) rfl ?_
  refine Y_fieldAddr F.foff59_0 ?_
  refine Y_load F.lay56 ?_
  refine X_len_mapP rfl rfl rfl rfl Try.underlying56 (by repeat first | exact List.Mem.head _ | refine List.Mem.tail _ ?_ | refine List.mem_append_right _ ?_) hom rfl ?_
  refine Y_cmp ?_
  refine XD_end ?_
  refine K_then ?_
  refine Y_pk [10, 3, 2, 1] ?_
  refine C_cond rfl (fun hc2 => ?_) (fun hc2 => ?_)
  ·replace hc2 := dT hc2
   refine C_seq ?_
   refine C_region (l := [0, 1]) rfl ?_
   iterate 2 refine Y_assign ?_
   refine XD_end ?_
   refine K_then ?_
   refine Y_pk [3, 2, 1] ?_
   refine C_ret ?_
   refine K_ret ?_
   refine K_end (.inr rfl) (.tmp rfl (.tmp rfl .nil)) (fun w hw => ?_)
   refine ⟨_, M, [], rfl, Mem.le.refl M, hw.c, rfl, ?_⟩
   rw [show fullR S = ([], 12) from if_pos (by omega)]
   exact StE.nil
  ·replace hc2 := dF hc2
   refine C_skip ?_
   refine K_then ?_
   refine Y_pk [3, 2, 1] ?_
   refine C_seq ?_
   refine C_region (l := [0]) rfl ?_
   refine Y_assign ?_
   refine XD_end ?_
   refine K_then ?_
   iterate 2 refine C_seq ?_
   refine C_region (l := [0, 1, 2]) rfl ?_
   refine Y_fieldAddr F.foff59_0 ?_
   refine Y_load F.lay56 ?_
   refine X_rangeP rfl rfl rfl Try.underlying56 (by repeat first | exact List.Mem.head _ | refine List.Mem.tail _ ?_ | refine List.mem_append_right _ ?_) hom rfl ?_; intro r1 oi1 hit1
   refine XD_end ?_
   refine K_then ?_
   refine Y_pk [13, 4, 3, 2] ?_
   refine C_block ?_
   refine Y_pk [4, 13, 3, 2] ?_
   refine C_loopO (Hin := [(r1, oi1)]) (.succ .zero) (by repeat first | exact Rem.here _ | exact Rem.two | apply Rem.skip | apply Rem.over) (fun (k : Nat) M1 h1 z => ∃ (sv : PM CellV) (oi : Obj) (v : Value) (hs : Hp), M1 = M ∧ z = [(4, v)] ∧ k = sv.length ∧ itO CellV.enc bm oi om m sv ∧ OSl 49 24 v hs ((sv.map mkH).map HeldV.segs) ∧ h1 = (r1, oi) :: hs) (fun k => m.length - k) (0) (⟨[], oi1, _, [], rfl, rfl, rfl, hit1, OSl.nil, rfl⟩) ?_
   rintro k M1 h1 z hm1 ⟨sv, oi, v0, hs, hM1, rfl, hk, hit, ho, rfl⟩
   subst hM1
   obtain ⟨ad0, cp0, rfl⟩ := ho.valL
   have hsl := hit.len
   have hml : ((sv.map mkH).map HeldV.segs).length = (sv.map mkH).length := List.length_map ..
   have hml2 : (sv.map mkH).length = sv.length := List.length_map ..
   refine C_seq ?_
   refine C_region (l := [0, 1]) rfl ?_
   refine X_nextP rfl rfl rfl (by repeat first | exact List.Mem.head _ | refine List.Mem.tail _ ?_ | refine List.mem_append_right _ ?_) (by repeat first | exact List.Mem.head _ | refine List.Mem.tail _ ?_ | refine List.mem_append_right _ ?_) hit rfl ?_ ?_
   ·intro p oi2 hp hit2
    obtain ⟨pk, ⟨p_v, p_h, p_s, ⟨p_a, p_c, p_l⟩⟩⟩ := p
    refine ⟨_, (by repeat first | exact Upd.head | apply Upd.tail | apply Upd.over), ?_⟩
    refine Y_extract ?_
    refine XD_end ?_
    refine K_then ?_
    refine C_seq ?_
    refine C_true rfl ?_
    refine C_skip ?_
    refine K_then ?_
    refine C_block ?_
    refine C_seq ?_
    refine C_region (l := [0, 1, 2, 3, 4, 5, 6]) rfl ?_
    refine X_entryP rfl rfl rfl (by repeat first | exact List.Mem.head _ | refine List.Mem.tail _ ?_ | refine List.mem_append_right _ ?_) (by repeat first | exact List.Mem.head _ | refine List.Mem.tail _ ?_ | refine List.mem_append_right _ ?_) hit2 rfl ?_
    refine Y_extract ?_
    refine XD_is 17 rfl (show keyV pk = aggV [idSeg pk] from rfl) ?_
    refine Y_extract ?_
    refine Y_alloc F.zero33 ?_; intro b3
    refine Y_alloc F.zero37 ?_; intro b4
    refine Y_store F.lay33 ?_
    refine Y_store F.lay37 ?_
    refine XD_end ?_
    refine K_then ?_
    refine C_region (l := [0, 1, 2, 3, 4, 5, 6]) rfl ?_
    refine Y_move ?_
    refine Y_load F.lay33 ?_
    refine Y_load F.lay37 ?_
    refine X_build rfl rfl F.bld49 (.cons rfl (by constructor) (.cons rfl (by constructor) .nil)) rfl rfl ?_
    refine X_buildSliceF rfl rfl F.elem31 F.zero49 rfl rfl (.cons rfl (by constructor) .nil) rfl rfl (by simp only [List.map_cons, List.map_nil] <;> rfl) rfl ?_; intro b5 hob6
    refine X_append (m := 1000000) rfl rfl rfl rfl rfl F.elem31 F.zero49 (by exact agg_size rfl) rfl (by assumption) (by repeat first | exact Rem.here _ | exact Rem.two | apply Rem.skip | apply Rem.over) (Src.own hob6.lens (by (refine rows_one1 ?_; (repeat (first | exact flat_nil | refine flat_id ?_ | (refine flat_one ?_ ?_; rfl))); done)) rfl (by repeat first | exact List.Mem.head _ | refine List.Mem.tail _ ?_ | refine List.mem_append_right _ ?_)) (by (simp; omega)) (by decide) rfl ?_; intro v9 hs8 ho7; obtain ⟨adv9, cpv9, rfl⟩ := ho7.val
    refine Y_assign ?_
    refine XD_end ?_
    refine K_out ?_
    refine K_roundO (a' := [(4, _)]) (k + 1) (((r1, oi2) :: hs8)) (.cons (k := 4) rfl (.cons (k := 13) rfl (.cons (k := 3) rfl (.cons (k := 2) rfl (.nil))))) (by exact Mem.le.refl _) (fun w hw => by first | exact hw | exact hw.c) ?_ ?_
    ·refine ⟨sv ++ [(pk, (⟨p_v, p_h, p_s, ⟨p_a, p_c, p_l⟩⟩ : CellV))], oi2, _, _, rfl, rfl, by simp [hk], hit2, ?_, rfl⟩
     rw [List.map_append, List.map_append]
     exact ho7
    ·have h9 := hit2.len; simp at h9; omega
   ·intro hperm
    refine Y_extract ?_
    refine XD_end ?_
    refine K_then ?_
    refine C_seq ?_
    refine C_false rfl ?_
    refine C_exit ?_
    iterate 2 refine K_exit ?_
    refine K_hit ?_
    refine K_then ?_
    refine Y_pk [4, 3, 2] ?_
    refine C_seq ?_
    refine C_regionR (l := [0, 1]) (Hin := hs) (by repeat first | exact Rem.here _ | exact Rem.two | apply Rem.skip | apply Rem.over) rfl ?_
    refine Y_move ?_
    refine X_fhR rfl rfl F.ok54 rfl (SortH_ok _ ad0 cp0 (sv.map mkH) hs ho (by omega)) (by repeat first | exact Rem.here _ | exact Rem.two | apply Rem.skip | apply Rem.over) (fun _ _ _ hm hw => (hw.lower (by exact hm)).c) (putE_some rfl) ?_
    rintro _ M3 hs9 hm3 ⟨hM3, rfl, l9, hp9, hsw9, ho9⟩; subst M3
    refine XD_end ?_
    refine K_then ?_
    refine Y_pk [4, 3, 2] ?_
    refine C_seq ?_
    refine C_region (l := [0, 1, 2]) rfl ?_
    refine Y_move ?_
    iterate 2 refine Y_assign ?_
    refine XD_end ?_
    refine K_then ?_
    refine Y_pk [3, 2] ?_
    refine C_ret ?_
    refine K_end (.inr rfl) (.tmp rfl (.tmp rfl .nil)) (fun w hw => ?_)
    have hw9 : St _ (hs9 ++ H) w := hw.c
    obtain ⟨M9, s9, g1, g2, g3, g4, g5⟩ := ho9.freezeK hw9
    refine ⟨_, M9, [], rfl, g1, g2, rfl, ?_⟩
    rw [show fullR S = (S, 0) from if_neg (by omega)]
    refine ⟨s9, congrArg (fun v => Value.tuple #[v, .int .i64 0]) g3, ?_, g5, fun h hh => ?_⟩
    ·rw [g4]
     refine row_sorted hsw9 ?_ hS.2
     have h1 : (pls l9).Perm (pls (sv.map mkH)) := hp9.map _
     rw [mkH_pl] at h1
     exact (h1.trans (hperm.map _)).trans hpm
    ·rw [g4] at hh
     obtain ⟨p9, hp8, rfl⟩ := List.mem_map.1 (hp9.mem_iff.1 hh)
     exact ⟨(hmo _ (hit.mem _ hp8)).mono g1⟩

end Go.Proofs.Ytbafnjniijodfaa
/-
  A cell put into a store; two stores blended.
-/
set_option linter.unusedSimpArgs false
set_option linter.unusedVariables false
set_option linter.unnecessarySimpa false
set_option maxRecDepth 8000
set_option maxHeartbeats 1000000
namespace Go.Proofs.Ytbafnjniijodfaa
open Go.Esp
theorem F.ok23 : okFn Try.prog 23 = true := by kernel_rfl
theorem F.ok29 : okFn Try.prog 29 = true := by kernel_rfl
theorem F.ok30 : okFn Try.prog 30 = true := by kernel_rfl
theorem F.ok31 : okFn Try.prog 31 = true := by kernel_rfl
theorem F.ok42 : okFn Try.prog 42 = true := by kernel_rfl
theorem F.zero31 : zeroOf Try.prog 31 = some ((.slice none 0 0)) := by kernel_rfl

theorem bofF_ok (M : Mem) (a : Option Addr) (c : Nat) (all : List (Sl HeldV)) (hs1 hs2 : Hp) (two : Cel → Cel → Cel) (gt : FuncId) (hgt : okFn Try.prog gt = true) (htwo : TwoOk Try.prog gt two) (ho : OSl 31 1 (.slice a all.length c) hs2 (all.map fun x => ([.one (Sl.val x)] : Segs))) (hfz : ∀ (w : World) (H : Hp), St M (hs1 ++ H) w → ∃ M1, M.le M1 ∧ St M1 H w ∧ ∀ s ∈ all, SlK M1 HeldV.segs 24 s ∧ ∀ h ∈ s.l, HeldV.ok M1 h) (hcel : ∀ s ∈ all, ∀ h ∈ s.l, IsCel h.cell.pl) (ht : Keeps2 two) : Fh Try.prog 29 [.func (.func gt) #[] #[], .slice a all.length c] M (hs2 ++ hs1) (fun M' v Hout => ∃ (bm : Nat) (om : Obj) (m : PM CellV), v = aggV [.one (.map (some bm)), .one (.func (.func gt) #[] #[])] ∧ Hout = [(bm, om)] ∧ pmO CellV.enc om m ∧ (mpl m).Perm (ofS two (all.map fun s => pls s.l)) ∧ ∀ p ∈ m, CellV.ok M' p.2) := fun H w hw => by
  have hw1 : St M (hs1 ++ (hs2 ++ H)) w := hw.perm0 (by rw [List.append_assoc]; exact (List.perm_append_comm_assoc hs2 hs1 H))
  obtain ⟨M1, h1, h2, h3⟩ := hfz w _ hw1
  obtain ⟨M2, h4, h5, h6⟩ := ho.frz h2
  exact (bof_ok M2 ⟨a, c, all⟩ two gt hgt htwo h6 (fun s hs => ⟨(h3 s hs).1.mono h4, fun h hh => ((h3 s hs).2 h hh).mono h4⟩) hcel ht H w h5).mono fun e w2 ⟨v, M3, Ho, g1, g2, g3, g4⟩ => ⟨v, M3, Ho, g1, (h1.trans h4).trans g2, g3, g4⟩
theorem bofF2_ok (M : Mem) (a : Option Addr) (c : Nat) (all : List (Sl HeldV)) (hs2 : Hp) (two : Cel → Cel → Cel) (gt : FuncId) (hgt : okFn Try.prog gt = true) (htwo : TwoOk Try.prog gt two) (ho : OSl 31 1 (.slice a all.length c) hs2 (all.map fun x => ([.one (Sl.val x)] : Segs))) (hall : ∀ s ∈ all, SlK M HeldV.segs 24 s ∧ ∀ h ∈ s.l, HeldV.ok M h) (hcel : ∀ s ∈ all, ∀ h ∈ s.l, IsCel h.cell.pl) (ht : Keeps2 two) : Fh Try.prog 29 [.func (.func gt) #[] #[], .slice a all.length c] M hs2 (fun M' v Hout => ∃ (bm : Nat) (om : Obj) (m : PM CellV), v = aggV [.one (.map (some bm)), .one (.func (.func gt) #[] #[])] ∧ Hout = [(bm, om)] ∧ pmO CellV.enc om m ∧ (mpl m).Perm (ofS two (all.map fun s => pls s.l)) ∧ ∀ p ∈ m, CellV.ok M' p.2) := fun H w hw => by
  have := bofF_ok M a c all [] hs2 two gt hgt htwo ho (fun w H hw => ⟨M, Mem.le.refl M, hw, hall⟩) hcel ht H w (by rw [List.append_nil]; exact hw)
  exact this

theorem Put_ok (M : Mem) (s : (Sl HeldV)) (key : Plc) (c : CellV) (hs0 : SlK M HeldV.segs 24 s) (hs1 : ∀ y ∈ (s).l, HeldV.ok M y) (hc2 : CellV.ok M c) : Esp.Fn Try.prog 19 [Sl.val s, aggV [idSeg key], c.enc] M (fun M' v => StE M' v (putR (pls s.l) key c.pl)) := by
  obtain ⟨s_a, s_c, s_l⟩ := s
  obtain ⟨c_version, c_has, c_val, ⟨c_marks_a, c_marks_c, c_marks_l⟩⟩ := c
  have k_s : SlK M HeldV.segs 24 ⟨s_a, s_c, s_l⟩ := hs0
  have s_s : SlM M s_a (s_l.map HeldV.segs) 24 := k_s.h1
  have n_s : (s_l.map HeldV.segs).length = s_l.length := List.length_map ..
  have m_s : s_l.length ≤ 9223372036854775807 := k_s.h2
  have c_s : s_l.length ≤ s_c := k_s.h3
  have l_s : ∀ y ∈ s_l, HeldV.ok M y := hs1
  have k_c_marks : SlK M MarkV.segs 6 ⟨c_marks_a, c_marks_c, c_marks_l⟩ := hc2.h0
  have s_c_marks : SlM M c_marks_a (c_marks_l.map MarkV.segs) 6 := k_c_marks.h1
  have n_c_marks : (c_marks_l.map MarkV.segs).length = c_marks_l.length := List.length_map ..
  have m_c_marks : c_marks_l.length ≤ 9223372036854775807 := k_c_marks.h2
  have c_c_marks : c_marks_l.length ≤ c_marks_c := k_c_marks.h3
  show Esp.Fn _ _ _ _ (fun M' v => StE M' v (putR (pls s_l) key (CellV.pl ⟨c_version, c_has, c_val, ⟨c_marks_a, c_marks_c, c_marks_l⟩⟩)))
  refine fn_enter Try.func19 rfl Try.ntmps19 rfl ?_; intro H
  refine C_seq ?_
  refine C_region (l := [0, 1, 2, 3]) rfl ?_
  refine Y_box ?_; intro b1
  refine Y_box ?_; intro b2
  iterate 2 refine Y_assign ?_
  refine XD_end ?_
  refine K_then ?_
  refine Y_pk [7, 6, 5, 4, 0] ?_
  iterate 2 refine C_seq ?_
  refine C_region (l := [0, 1, 2, 3, 4, 5, 6, 7]) rfl ?_
  refine Y_move ?_
  refine X_fs rfl rfl F.ok23 rfl (StIs_ok _ ⟨_, _, _⟩ (by assumption) (by assumption)) rfl ?_
  rintro _ rfl
  refine Y_not ?_
  refine Y_move ?_
  refine XD_part 11 rfl (fun hc3 => ?_) (fun hc3 => ?_)
  ·replace hc3 := nT hc3
   simp only [AnswerV.eta, MarkV.eta, CellV.eta, HeldV.eta, PeerV.eta] at hc3
   iterate 3 refine Y_skip ?_
   refine Y_pick ?_
   refine XD_end ?_
   refine K_then ?_
   refine Y_pk [15, 7, 6, 5, 4, 0] ?_
   refine C_true rfl ?_
   refine C_seq ?_
   refine C_region (l := [0, 1]) rfl ?_
   iterate 2 refine Y_assign ?_
   refine XD_end ?_
   refine K_then ?_
   refine Y_pk [7, 6, 5, 4, 0] ?_
   refine C_ret ?_
   refine K_ret ?_
   refine K_end (.inr rfl) (.tmp rfl (.tmp rfl .nil)) (fun w hw => ?_)
   refine ⟨_, M, rfl, Mem.le.refl M, hw.c, ?_⟩
   rw [show putR (pls s_l) key (CellV.pl ⟨c_version, c_has, c_val, ⟨c_marks_a, c_marks_c, c_marks_l⟩⟩) = ([], 1) from if_neg (by rintro ⟨g1, g2⟩; contradiction)]
   exact StE.nil
  ·replace hc3 := nF hc3
   simp only [AnswerV.eta, MarkV.eta, CellV.eta, HeldV.eta, PeerV.eta] at hc3
   refine Y_load F.lay37 ?_
   refine X_fs rfl rfl F.ok41 rfl (CelIs_ok _ ⟨c_version, c_has, c_val, ⟨c_marks_a, c_marks_c, c_marks_l⟩⟩ hc2) rfl ?_
   rintro _ rfl
   refine Y_not ?_
   refine Y_pick ?_
   refine XD_end ?_
   refine K_then ?_
   refine Y_pk [15, 7, 6, 5, 4, 0] ?_
   refine C_cond rfl (fun hc4 => ?_) (fun hc4 => ?_)
   ·replace hc4 := nT hc4
    refine C_seq ?_
    refine C_region (l := [0, 1]) rfl ?_
    iterate 2 refine Y_assign ?_
    refine XD_end ?_
    refine K_then ?_
    refine Y_pk [7, 6, 5, 4, 0] ?_
    refine C_ret ?_
    refine K_ret ?_
    refine K_end (.inr rfl) (.tmp rfl (.tmp rfl .nil)) (fun w hw => ?_)
    refine ⟨_, M, rfl, Mem.le.refl M, hw.c, ?_⟩
    rw [show putR (pls s_l) key (CellV.pl ⟨c_version, c_has, c_val, ⟨c_marks_a, c_marks_c, c_marks_l⟩⟩) = ([], 1) from if_neg (by rintro ⟨g1, g2⟩; contradiction)]
    exact StE.nil
   ·replace hc4 := nF hc4
    refine C_skip ?_
    refine K_then ?_
    refine Y_pk [7, 6, 5, 4, 0] ?_
    refine C_seq ?_
    have hst0 : IsSt (pls s_l) := by assumption
    have hcc : IsCel (CellV.pl ⟨c_version, c_has, c_val, ⟨c_marks_a, c_marks_c, c_marks_l⟩⟩) := by assumption
    refine C_region (l := [0, 1, 2, 3, 4, 5, 6, 7, 8, 9, 10, 11]) rfl ?_
    refine Y_move ?_
    refine Y_load F.lay33 ?_
    refine Y_load F.lay37 ?_
    refine X_build rfl rfl F.bld49 (.cons rfl (by constructor) (.cons rfl (by constructor) .nil)) rfl rfl ?_
    refine X_buildSliceF rfl rfl F.elem31 F.zero49 rfl rfl (.cons rfl (by constructor) .nil) rfl rfl (by simp only [List.map_cons, List.map_nil] <;> rfl) rfl ?_; intro b5 hob6
    refine X_buildSliceF rfl rfl F.elem23 F.zero31 rfl rfl (.cons rfl (by constructor) (.cons rfl (by constructor) .nil)) rfl rfl (by simp only [List.map_cons, List.map_nil] <;> rfl) rfl ?_; intro b7 hob8
    have hcel : ∀ s ∈ ([⟨s_a, s_c, s_l⟩, ⟨some ⟨b5, 0, none⟩, 1, [⟨key, ⟨c_version, c_has, c_val, ⟨c_marks_a, c_marks_c, c_marks_l⟩⟩⟩]⟩] : List (Sl HeldV)), ∀ h ∈ s.l, IsCel h.cell.pl := fun s hs h hh => by
     rcases List.mem_cons.1 hs with rfl | hs
     ·exact hst0.2.1 _ (List.mem_map_of_mem hh)
     ·obtain rfl := List.mem_singleton.1 hs
      obtain rfl := List.mem_singleton.1 hh
      exact hcc
    have hfz : ∀ (w : World) (H : Hp), St M (_ ++ H) w → ∃ M1, M.le M1 ∧ St M1 H w ∧ ∀ s ∈ ([⟨s_a, s_c, s_l⟩, ⟨some ⟨b5, 0, none⟩, 1, [⟨key, ⟨c_version, c_has, c_val, ⟨c_marks_a, c_marks_c, c_marks_l⟩⟩⟩]⟩] : List (Sl HeldV)), SlK M1 HeldV.segs 24 s ∧ ∀ h ∈ s.l, HeldV.ok M1 h := fun w H hw => by
     obtain ⟨M1, j1, j2, j3⟩ := (show OSl 49 24 _ _ ([(⟨key, ⟨c_version, c_has, c_val, ⟨c_marks_a, c_marks_c, c_marks_l⟩⟩⟩ : HeldV)].map HeldV.segs) from hob6).frz hw
     refine ⟨M1, j1, j2, fun s hs => ?_⟩
     rcases List.mem_cons.1 hs with rfl | hs
     ·exact ⟨k_s.mono j1, fun h hh => (l_s h hh).mono j1⟩
     ·obtain rfl := List.mem_singleton.1 hs
      exact ⟨j3, fun h hh => by obtain rfl := List.mem_singleton.1 hh; exact ⟨hc2.mono j1⟩⟩
    refine X_fhR2 rfl rfl F.ok29 rfl (bofF_ok _ _ _ [⟨s_a, s_c, s_l⟩, ⟨some ⟨b5, 0, none⟩, 1, [⟨key, ⟨c_version, c_has, c_val, ⟨c_marks_a, c_marks_c, c_marks_l⟩⟩⟩]⟩] _ _ lastT 42 F.ok42 last_ok2 (show OSl 31 1 _ _ ([(⟨s_a, s_c, s_l⟩ : Sl HeldV), ⟨some ⟨b5, 0, none⟩, 1, [⟨key, ⟨c_version, c_has, c_val, ⟨c_marks_a, c_marks_c, c_marks_l⟩⟩⟩]⟩].map fun x => ([.one (Sl.val x)] : Segs)) from hob8) hfz hcel lastT_keeps) (by repeat first | exact Rem.here _ | exact Rem.two | apply Rem.skip | apply Rem.over) (by repeat first | exact Rem.here _ | exact Rem.two | apply Rem.skip | apply Rem.over) (by rintro v M9 Hout w hm _ hw; exact (hw.lower hm).c) (putE_some rfl) ?_
    rintro _ M4 _ hm4 ⟨bm, om, om_m, rfl, rfl, hom, hpm, hmo⟩
    obtain ⟨S9, hS⟩ : ∃ S, S = ofS lastT [pls s_l, [⟨key, CellV.pl ⟨c_version, c_has, c_val, ⟨c_marks_a, c_marks_c, c_marks_l⟩⟩⟩]] := ⟨_, rfl⟩
    have hS9 : StOk S9 := by rw [hS]; exact ofS_ok lastT_keeps (fun s hs x hx => by
      rcases List.mem_cons.1 hs with rfl | hs
      ·exact hst0.2.1 x hx
      ·obtain rfl := List.mem_singleton.1 hs
       obtain rfl := List.mem_singleton.1 hx
       exact hcc)
    replace hpm : (mpl om_m).Perm S9 := by rw [hS]; exact hpm
    refine X_fhR rfl rfl F.ok31 rfl (brow_ok _ bm om_m om hom hmo _ S9 hS9 hpm) (by repeat first | exact Rem.here _ | exact Rem.two | apply Rem.skip | apply Rem.over) (fun _ _ _ hm hw => (hw.lower (by exact Mem.le.trans (by assumption) hm)).c) (putE_some rfl) ?_
    rintro _ M5 _ hm5 ⟨rfl, ⟨q_a, q_c, q_l⟩, rfl, g9, k9, o9⟩
    iterate 2 refine Y_extract ?_
    iterate 2 refine Y_assign ?_
    refine XD_end ?_
    refine K_then ?_
    refine Y_pk [7, 6] ?_
    refine C_ret ?_
    refine K_end (.inr rfl) (.tmp rfl (.tmp rfl .nil)) (fun w hw => ?_)
    refine ⟨_, M5, rfl, hm4.trans hm5, hw.c, ?_⟩
    rw [show putR (pls s_l) key (CellV.pl ⟨c_version, c_has, c_val, ⟨c_marks_a, c_marks_c, c_marks_l⟩⟩) = fullR S9 from by rw [hS]; exact putR_yes hst0 hcc]
    exact ⟨⟨q_a, q_c, q_l⟩, rfl, g9, k9, o9⟩

theorem Blend_ok (M : Mem) (s : (Sl HeldV)) (t : (Sl HeldV)) (hs0 : SlK M HeldV.segs 24 s) (hs1 : ∀ y ∈ (s).l, HeldV.ok M y) (ht2 : SlK M HeldV.segs 24 t) (ht3 : ∀ y ∈ (t).l, HeldV.ok M y) : Esp.Fn Try.prog 21 [Sl.val s, Sl.val t] M (fun M' v => StE M' v (blendR (pls s.l) (pls t.l))) := by
  obtain ⟨s_a, s_c, s_l⟩ := s
  obtain ⟨t_a, t_c, t_l⟩ := t
  have k_s : SlK M HeldV.segs 24 ⟨s_a, s_c, s_l⟩ := hs0
  have s_s : SlM M s_a (s_l.map HeldV.segs) 24 := k_s.h1
  have n_s : (s_l.map HeldV.segs).length = s_l.length := List.length_map ..
  have m_s : s_l.length ≤ 9223372036854775807 := k_s.h2
  have c_s : s_l.length ≤ s_c := k_s.h3
  have l_s : ∀ y ∈ s_l, HeldV.ok M y := hs1
  have k_t : SlK M HeldV.segs 24 ⟨t_a, t_c, t_l⟩ := ht2
  have s_t : SlM M t_a (t_l.map HeldV.segs) 24 := k_t.h1
  have n_t : (t_l.map HeldV.segs).length = t_l.length := List.length_map ..
  have m_t : t_l.length ≤ 9223372036854775807 := k_t.h2
  have c_t : t_l.length ≤ t_c := k_t.h3
  have l_t : ∀ y ∈ t_l, HeldV.ok M y := ht3
  show Esp.Fn _ _ _ _ (fun M' v => StE M' v (blendR (pls s_l) (pls t_l)))
  refine fn_enter Try.func21 rfl Try.ntmps21 rfl ?_; intro H
  refine C_seq ?_
  refine C_region (l := [0, 1]) rfl ?_
  iterate 2 refine Y_assign ?_
  refine XD_end ?_
  refine K_then ?_
  iterate 2 refine C_seq ?_
  refine C_region (l := [0, 1, 2, 3, 4, 5, 6, 7]) rfl ?_
  refine Y_move ?_
  refine X_fs rfl rfl F.ok23 rfl (StIs_ok _ ⟨_, _, _⟩ (by assumption) (by assumption)) rfl ?_
  rintro _ rfl
  refine Y_not ?_
  refine Y_move ?_
  refine XD_part 9 rfl (fun hc1 => ?_) (fun hc1 => ?_)
  ·replace hc1 := nT hc1
   simp only [AnswerV.eta, MarkV.eta, CellV.eta, HeldV.eta, PeerV.eta] at hc1
   iterate 3 refine Y_skip ?_
   refine Y_pick ?_
   refine XD_end ?_
   refine K_then ?_
   refine Y_pk [13, 5, 4, 0, 1] ?_
   refine C_true rfl ?_
   refine C_seq ?_
   refine C_region (l := [0, 1]) rfl ?_
   iterate 2 refine Y_assign ?_
   refine XD_end ?_
   refine K_then ?_
   refine Y_pk [5, 4, 0, 1] ?_
   refine C_ret ?_
   refine K_ret ?_
   refine K_end (.inr rfl) (.tmp rfl (.tmp rfl .nil)) (fun w hw => ?_)
   refine ⟨_, M, rfl, Mem.le.refl M, hw.c, ?_⟩
   rw [show blendR (pls s_l) (pls t_l) = ([], 1) from if_neg (by rintro ⟨g1, g2⟩; contradiction)]
   exact StE.nil
  ·replace hc1 := nF hc1
   simp only [AnswerV.eta, MarkV.eta, CellV.eta, HeldV.eta, PeerV.eta] at hc1
   refine Y_move ?_
   refine X_fs rfl rfl F.ok23 rfl (StIs_ok _ ⟨_, _, _⟩ (by assumption) (by assumption)) rfl ?_
   rintro _ rfl
   refine Y_not ?_
   refine Y_pick ?_
   refine XD_end ?_
   refine K_then ?_
   refine Y_pk [13, 5, 4, 0, 1] ?_
   refine C_cond rfl (fun hc2 => ?_) (fun hc2 => ?_)
   ·replace hc2 := nT hc2
    simp only [AnswerV.eta, MarkV.eta, CellV.eta, HeldV.eta, PeerV.eta] at hc2
    refine C_seq ?_
    refine C_region (l := [0, 1]) rfl ?_
    iterate 2 refine Y_assign ?_
    refine XD_end ?_
    refine K_then ?_
    refine Y_pk [5, 4, 0, 1] ?_
    refine C_ret ?_
    refine K_ret ?_
    refine K_end (.inr rfl) (.tmp rfl (.tmp rfl .nil)) (fun w hw => ?_)
    refine ⟨_, M, rfl, Mem.le.refl M, hw.c, ?_⟩
    rw [show blendR (pls s_l) (pls t_l) = ([], 1) from if_neg (by rintro ⟨g1, g2⟩; contradiction)]
    exact StE.nil
   ·replace hc2 := nF hc2
    simp only [AnswerV.eta, MarkV.eta, CellV.eta, HeldV.eta, PeerV.eta] at hc2
    refine C_skip ?_
    refine K_then ?_
    refine Y_pk [5, 4, 0, 1] ?_
    refine C_seq ?_
    have hst0 : IsSt (pls s_l) := by assumption
    have htt : IsSt (pls t_l) := by assumption
    have hcel : ∀ s ∈ ([⟨s_a, s_c, s_l⟩, ⟨t_a, t_c, t_l⟩] : List (Sl HeldV)), ∀ h ∈ s.l, IsCel h.cell.pl := fun s hs h hh => by
     rcases List.mem_cons.1 hs with rfl | hs
     ·exact hst0.2.1 _ (List.mem_map_of_mem hh)
     ·obtain rfl := List.mem_singleton.1 hs
      exact htt.2.1 _ (List.mem_map_of_mem hh)
    have hall : ∀ s ∈ ([⟨s_a, s_c, s_l⟩, ⟨t_a, t_c, t_l⟩] : List (Sl HeldV)), SlK M HeldV.segs 24 s ∧ ∀ h ∈ s.l, HeldV.ok M h := fun s hs => by
     rcases List.mem_cons.1 hs with rfl | hs
     ·exact ⟨k_s, l_s⟩
     ·obtain rfl := List.mem_singleton.1 hs
      exact ⟨k_t, l_t⟩
    refine C_region (l := [0, 1, 2, 3, 4, 5, 6, 7, 8]) rfl ?_
    iterate 2 refine Y_move ?_
    refine X_buildSliceF rfl rfl F.elem23 F.zero31 rfl rfl (.cons rfl (by constructor) (.cons rfl (by constructor) .nil)) rfl rfl (by simp only [List.map_cons, List.map_nil] <;> rfl) rfl ?_; intro b3 hob4
    refine X_fhR rfl rfl F.ok29 rfl (bofF2_ok _ _ _ [⟨s_a, s_c, s_l⟩, ⟨t_a, t_c, t_l⟩] _ mergedT 30 F.ok30 merged_ok2 (show OSl 31 1 _ _ ([(⟨s_a, s_c, s_l⟩ : Sl HeldV), ⟨t_a, t_c, t_l⟩].map fun x => ([.one (Sl.val x)] : Segs)) from hob4) hall hcel mergedT_keeps) (by repeat first | exact Rem.here _ | exact Rem.two | apply Rem.skip | apply Rem.over) (fun _ _ _ hm hw => (hw.lower (by exact hm)).c) (putE_some rfl) ?_
    rintro _ M4 _ hm4 ⟨bm, om, om_m, rfl, rfl, hom, hpm, hmo⟩
    obtain ⟨S9, hS⟩ : ∃ S, S = ofS mergedT [pls s_l, pls t_l] := ⟨_, rfl⟩
    have hS9 : StOk S9 := by rw [hS]; exact ofS_ok mergedT_keeps (fun s hs x hx => by
      rcases List.mem_cons.1 hs with rfl | hs
      ·exact hst0.2.1 x hx
      ·obtain rfl := List.mem_singleton.1 hs
       exact htt.2.1 x hx)
    replace hpm : (mpl om_m).Perm S9 := by rw [hS]; exact hpm
    refine X_fhR rfl rfl F.ok31 rfl (brow_ok _ bm om_m om hom hmo _ S9 hS9 hpm) (by repeat first | exact Rem.here _ | exact Rem.two | apply Rem.skip | apply Rem.over) (fun _ _ _ hm hw => (hw.lower (by exact Mem.le.trans (by assumption) hm)).c) (putE_some rfl) ?_
    rintro _ M5 _ hm5 ⟨rfl, ⟨q_a, q_c, q_l⟩, rfl, g9, k9, o9⟩
    iterate 2 refine Y_extract ?_
    iterate 2 refine Y_assign ?_
    refine XD_end ?_
    refine K_then ?_
    refine Y_pk [5, 4] ?_
    refine C_ret ?_
    refine K_end (.inr rfl) (.tmp rfl (.tmp rfl .nil)) (fun w hw => ?_)
    refine ⟨_, M5, rfl, hm4.trans hm5, hw.c, ?_⟩
    rw [show blendR (pls s_l) (pls t_l) = fullR S9 from by rw [hS]; exact blendR_yes hst0 htt]
    exact ⟨⟨q_a, q_c, q_l⟩, rfl, g9, k9, o9⟩

end Go.Proofs.Ytbafnjniijodfaa
/-
  A cell put into a store, as the document has it.
-/
set_option linter.unusedSimpArgs false
set_option linter.unusedVariables false
set_option linter.unnecessarySimpa false
set_option maxRecDepth 8000
set_option maxHeartbeats 1000000
namespace Go.Proofs.Ytbafnjniijodfaa
open Go.Esp
theorem F.ok24 : okFn Try.prog 24 = true := by kernel_rfl
theorem F.ok44 : okFn Try.prog 44 = true := by kernel_rfl

theorem with_ok (M : Mem) (s : (Sl HeldV)) (key : Plc) (c : CellV) (hs0 : SlK M HeldV.segs 24 s) (hs1 : ∀ y ∈ (s).l, HeldV.ok M y) (hc2 : CellV.ok M c) (hb : s.l.length ≤ 900000) : Esp.Fn Try.prog 44 [Sl.val s, aggV [idSeg key], c.enc] M (fun M' v => ∃ q : Sl HeldV, v = q.val ∧ pls q.l = withS (pls s.l) key c.pl ∧ SlK M' HeldV.segs 24 q ∧ ∀ h ∈ q.l, HeldV.ok M' h) := by
  obtain ⟨s_a, s_c, s_l⟩ := s
  obtain ⟨c_version, c_has, c_val, ⟨c_marks_a, c_marks_c, c_marks_l⟩⟩ := c
  have k_s : SlK M HeldV.segs 24 ⟨s_a, s_c, s_l⟩ := hs0
  have s_s : SlM M s_a (s_l.map HeldV.segs) 24 := k_s.h1
  have n_s : (s_l.map HeldV.segs).length = s_l.length := List.length_map ..
  have m_s : s_l.length ≤ 9223372036854775807 := k_s.h2
  have c_s : s_l.length ≤ s_c := k_s.h3
  have l_s : ∀ y ∈ s_l, HeldV.ok M y := hs1
  have k_c_marks : SlK M MarkV.segs 6 ⟨c_marks_a, c_marks_c, c_marks_l⟩ := hc2.h0
  have s_c_marks : SlM M c_marks_a (c_marks_l.map MarkV.segs) 6 := k_c_marks.h1
  have n_c_marks : (c_marks_l.map MarkV.segs).length = c_marks_l.length := List.length_map ..
  have m_c_marks : c_marks_l.length ≤ 9223372036854775807 := k_c_marks.h2
  have c_c_marks : c_marks_l.length ≤ c_marks_c := k_c_marks.h3
  simp only at hb
  refine fn_enter Try.func44 rfl Try.ntmps44 rfl ?_; intro H
  refine C_seq ?_
  refine C_region (l := [0, 1, 2]) rfl ?_
  refine Y_box ?_; intro b1
  refine Y_box ?_; intro b2
  refine Y_assign ?_
  refine XD_end ?_
  refine K_then ?_
  refine Y_pk [6, 5, 4, 0] ?_
  refine C_seq ?_
  refine C_region (l := [0]) rfl ?_
  refine Y_assign ?_
  refine XD_end ?_
  refine K_then ?_
  refine C_seq ?_
  refine C_region (l := [0]) rfl ?_
  refine Y_assign ?_
  refine XD_end ?_
  refine K_then ?_
  refine C_seq ?_
  refine C_block ?_
  refine Y_pk [8, 7, 6, 5, 4, 0] ?_
  refine C_loopO (Hin := []) (.succ (.succ .zero)) (by repeat first | exact Rem.here _ | exact Rem.two | apply Rem.skip | apply Rem.over) (fun (k : Nat) M1 h1 z => ∃ v, M1 = M ∧ z = [(8, .int .i64 (k : Int)), (7, v)] ∧ k ≤ s_l.length ∧ (∀ j (h : j < s_l.length), j < k → LessP s_l[j].key key) ∧ OSl 49 24 v h1 ((s_l.take (k)).map HeldV.segs)) (fun k => s_l.length - k) (0) (⟨_, rfl, rfl, by omega, fun j h2 hj => by omega, OSl.nil⟩) ?_
  rintro k M1 h1 z hm1 ⟨v0, hM1, rfl, hk9, hI, ho⟩
  subst hM1
  obtain ⟨ad0, cp0, rfl⟩ := ho.val
  have hml : ((s_l.take (k)).map HeldV.segs).length = k := by simp; omega
  rw [hml] at ho ⊢
  iterate 2 refine C_seq ?_
  refine C_region_any (l := [0, 1, 2, 3, 4, 5, 6, 7, 8, 9, 10, 11, 12]) #[0, 0, 2, 7, 15, 31, 31, 127, 255, 511, 31, 2047, 4095] _ rfl (by kernel_rfl) (by kernel_rfl) St.drawn (fun _ h => h) ?_
  iterate 2 refine Y_move ?_
  refine Y_len_sl F.elem31 ?_
  refine Y_cmp ?_
  refine Y_move ?_
  refine XD_part 13 rfl (fun hc3 => ?_) (fun hc3 => ?_)
  ·replace hc3 := dT hc3
   iterate 2 refine Y_move ?_
   refine X_indexAddr rfl rfl rfl rfl F.elem31 (by rfl) (by omega) (by exact SlM.plain (by assumption) (by (simp; omega))) rfl ?_
   refine X_fieldAddr_el rfl rfl rfl (by exact SlM.plain (by assumption) (by (simp; omega))) F.foff49_0 rfl ?_
   refine X_load_el rfl rfl rfl (by assumption) (by exact row_map (by omega)) F.lay33 rfl rfl rfl ?_
   refine Y_load F.lay33 ?_
   refine X_fs rfl rfl F.ok47 rfl (rLess_ok _ _ _) rfl ?_
   rintro _ rfl
   refine Y_pick ?_
   refine XD_end ?_
   refine K_then ?_
   refine C_cond rfl (fun hc4 => ?_) (fun hc4 => ?_)
   ·replace hc4 := dT hc4
    simp only [List.get_eq_getElem] at hc4
    refine C_skip ?_
    refine K_then ?_
    refine C_block ?_
    refine C_seq ?_
    refine C_region (l := [0, 1, 2, 3, 4, 5, 6, 7]) rfl ?_
    iterate 3 refine Y_move ?_
    refine X_indexAddr rfl rfl rfl rfl F.elem31 (by rfl) (by omega) (by exact SlM.plain (by assumption) (by (simp; omega))) rfl ?_
    refine X_load_el rfl rfl rfl (by assumption) (by exact row_map (by omega)) F.lay49 rfl rfl rfl ?_
    refine X_buildSliceF rfl rfl F.elem31 F.zero49 rfl rfl (.cons rfl (by constructor) .nil) rfl rfl (by simp only [List.map_cons, List.map_nil] <;> rfl) rfl ?_; intro b5 hob6
    refine X_append (m := 1000000) rfl rfl rfl rfl rfl F.elem31 F.zero49 (by exact agg_size rfl) rfl (by assumption) (by repeat first | exact Rem.here _ | exact Rem.two | apply Rem.skip | apply Rem.over) (Src.own hob6.lens (by (refine rows_one1 ?_; (repeat (first | exact flat_nil | refine flat_id ?_ | (refine flat_one ?_ ?_; rfl))); done)) rfl (by repeat first | exact List.Mem.head _ | refine List.Mem.tail _ ?_ | refine List.mem_append_right _ ?_)) (by (simp; omega)) (by decide) rfl ?_; intro v9 hs8 ho7; obtain ⟨adv9, cpv9, rfl⟩ := ho7.val
    refine Y_assign ?_
    refine XD_end ?_
    refine K_then ?_
    refine C_region (l := [0, 1, 2]) rfl ?_
    refine Y_move ?_
    refine X_ari rfl rfl rfl rfl rfl (by exact wrap_in (by decide) (by omega)) rfl ?_
    refine Y_assign ?_
    refine XD_end ?_
    refine K_out ?_
    refine K_roundO (a' := [(8, _), (7, _)]) (k + 1) (hs8) (.cons (k := 8) rfl (.cons (k := 7) rfl (.cons (k := 6) rfl (.cons (k := 5) rfl (.cons (k := 4) rfl (.cons (k := 0) rfl (.nil))))))) (by exact Mem.le.refl _) (fun w hw => by first | exact hw | exact hw.c) ?_ ?_
    ·refine ⟨_, rfl, rfl, by omega, fun j h2 hj => ?_, ?_⟩
     ·rcases Nat.lt_or_ge j k with h9 | h9
      ·exact hI j h2 h9
      ·obtain rfl : j = k := by omega
       assumption
     ·rw [take_map_succ _ (by omega)]
      exact ho7
    ·omega
   ·replace hc4 := dF hc4
    simp only [List.get_eq_getElem] at hc4
    refine C_exit ?_
    iterate 2 refine K_exit ?_
    refine K_hit ?_
    refine K_then ?_
    refine Y_pk [8, 7, 6, 5, 4, 0] ?_
    refine C_seq ?_
    have k_d0 := k_s.drop k hk9
    refine C_region (l := [0, 1, 2, 3, 4, 5, 6]) rfl ?_
    refine Y_move ?_
    refine Y_load F.lay33 ?_
    refine Y_load F.lay37 ?_
    refine X_build rfl rfl F.bld49 (.cons rfl (by constructor) (.cons rfl (by constructor) .nil)) rfl rfl ?_
    refine X_buildSliceF rfl rfl F.elem31 F.zero49 rfl rfl (.cons rfl (by constructor) .nil) rfl rfl (by simp only [List.map_cons, List.map_nil] <;> rfl) rfl ?_; intro b10 hob11
    refine X_append (m := 1000000) rfl rfl rfl rfl rfl F.elem31 F.zero49 (by exact agg_size rfl) rfl (by assumption) (by repeat first | exact Rem.here _ | exact Rem.two | apply Rem.skip | apply Rem.over) (Src.own hob11.lens (by (refine rows_one1 ?_; (repeat (first | exact flat_nil | refine flat_id ?_ | (refine flat_one ?_ ?_; rfl))); done)) rfl (by repeat first | exact List.Mem.head _ | refine List.Mem.tail _ ?_ | refine List.mem_append_right _ ?_)) (by (simp; omega)) (by decide) rfl ?_; intro v14 hs13 ho12; obtain ⟨adv14, cpv14, rfl⟩ := ho12.val
    refine Y_assign ?_
    refine XD_end ?_
    refine K_then ?_
    refine Y_pk [7, 8, 6, 4, 0] ?_
    iterate 2 refine C_seq ?_
    refine C_region_any (l := [0, 1, 2, 3, 4, 5, 6, 7, 8, 9, 10, 11, 12]) #[0, 0, 2, 7, 15, 31, 31, 127, 255, 511, 31, 2047, 4095] _ rfl (by kernel_rfl) (by kernel_rfl) St.drawn (fun _ h => h) ?_
    iterate 2 refine Y_move ?_
    refine Y_len_sl F.elem31 ?_
    refine Y_cmp ?_
    refine Y_move ?_
    refine XD_part 41 rfl (fun hc15 => ?_) (fun hc15 => ?_)
    ·replace hc15 := dT hc15
     iterate 2 refine Y_move ?_
     refine X_indexAddr rfl rfl rfl rfl F.elem31 (by rfl) (by omega) (by exact SlM.plain (by assumption) (by (simp; omega))) rfl ?_
     refine X_fieldAddr_el rfl rfl rfl (by exact SlM.plain (by assumption) (by (simp; omega))) F.foff49_0 rfl ?_
     refine X_load_el rfl rfl rfl (by assumption) (by exact row_map (by omega)) F.lay33 rfl rfl rfl ?_
     refine Y_load F.lay33 ?_
     refine X_same (m := 20) rfl rfl rfl rfl rfl (by constructor) (by constructor) F.lay33 F.kinds33 rfl F.guard33 (fit_id fit_nil) (fit_id fit_nil) rfl rfl rfl ?_; intro c16 he17
     replace he17 : c16 = true ↔ Segs.cells _ = Segs.cells _ := he17
     obtain rfl := eqD he17 (cells_id1 (x := _) (y := _)); clear he17
     refine Y_pick ?_
     refine XD_end ?_
     refine K_then ?_
     refine Y_pk [49, 7, 8, 6, 0] ?_
     refine C_cond rfl (fun hc18 => ?_) (fun hc18 => ?_)
     ·replace hc18 := dT hc18
      simp only [List.get_eq_getElem] at hc18
      have k_d1 := k_s.drop (k + 1) (by omega)
      refine C_region (l := [0, 1, 2]) rfl ?_
      refine Y_move ?_
      refine X_ari rfl rfl rfl rfl rfl (by exact wrap_in (by decide) (by omega)) rfl ?_
      refine Y_assign ?_
      refine XD_end ?_
      refine K_then ?_
      refine Y_pk [8, 7, 6, 0] ?_
      refine C_seq ?_
      refine C_region (l := [0, 1, 2, 3, 4, 5]) rfl ?_
      iterate 3 refine Y_move ?_
      refine X_slice rfl rfl rfl (.some (k := k + 1) rfl (by rfl)) .none .none F.elem31 (by simp only [Option.getD_none]; omega) (by simp only [Option.getD_some, Option.getD_none]; omega) (by simp only [Option.getD_some, Option.getD_none]; omega) (by simp) (pieceV_drop (l := s_l) (k := k + 1)) rfl ?_
      refine X_appendK (m := 1000000) rfl rfl rfl rfl rfl F.elem31 F.zero49 (by exact agg_size rfl) rfl (by assumption) (by repeat first | exact Rem.here _ | exact Rem.two | apply Rem.skip | apply Rem.over) ((by exact k_d1.h1)) HeldV.flat (by (simp; omega)) (by decide) rfl ?_; intro v21 hs20 ho19; obtain ⟨adv21, cpv21, rfl⟩ := ho19.val
      refine Y_assign ?_
      refine XD_end ?_
      refine K_then ?_
      refine Y_pk [6] ?_
      refine C_ret ?_
      refine K_end (.inr rfl) (.tmp rfl .nil) (fun w hw => ?_)
      have ho7 := (ho19).as9 (show _ = (s_l.take k ++ (⟨key, ⟨c_version, c_has, c_val, ⟨c_marks_a, c_marks_c, c_marks_l⟩⟩⟩ : HeldV) :: s_l.drop (k + 1)).map HeldV.segs by simp <;> rfl)
      have hw9 : St _ (hs20 ++ H) w := hw.c
      obtain ⟨M9, s9, g1, g2, g3, g4, g5⟩ := ho7.freezeK hw9
      refine ⟨_, M9, rfl, g1, g2, s9, g3, ?_, g5, fun h hh => ?_⟩
      ·rw [g4]; exact (withS_eqV (by omega) (fun j h2 hj => hI j h2 hj) (by assumption)).symm
      ·rw [g4] at hh
       rcases List.mem_append.1 hh with hh | hh
       ·exact (l_s h (List.mem_of_mem_take hh)).mono g1
       ·rcases List.mem_cons.1 hh with rfl | hh
        ·exact ⟨hc2.mono g1⟩
        ·exact (l_s h (List.mem_of_mem_drop hh)).mono g1
     ·replace hc18 := dF hc18
      simp only [List.get_eq_getElem] at hc18
      refine C_skip ?_
      refine K_then ?_
      refine Y_pk [7, 8, 6, 0] ?_
      refine C_seq ?_
      refine C_region (l := [0, 1, 2, 3, 4, 5]) rfl ?_
      iterate 3 refine Y_move ?_
      refine X_slice rfl rfl rfl (.some (k := k) rfl (by rfl)) .none .none F.elem31 (by simp only [Option.getD_none]; omega) (by simp only [Option.getD_some, Option.getD_none]; omega) (by simp only [Option.getD_some, Option.getD_none]; omega) (by simp) (pieceV_drop (l := s_l) (k := k)) rfl ?_
      refine X_appendK (m := 1000000) rfl rfl rfl rfl rfl F.elem31 F.zero49 (by exact agg_size rfl) rfl (by assumption) (by repeat first | exact Rem.here _ | exact Rem.two | apply Rem.skip | apply Rem.over) ((by exact k_d0.h1)) HeldV.flat (by (simp; omega)) (by decide) rfl ?_; intro v24 hs23 ho22; obtain ⟨adv24, cpv24, rfl⟩ := ho22.val
      refine Y_assign ?_
      refine XD_end ?_
      refine K_then ?_
      refine Y_pk [6] ?_
      refine C_ret ?_
      refine K_end (.inr rfl) (.tmp rfl .nil) (fun w hw => ?_)
      have ho7 := (ho22).as9 (show _ = (s_l.take k ++ (⟨key, ⟨c_version, c_has, c_val, ⟨c_marks_a, c_marks_c, c_marks_l⟩⟩⟩ : HeldV) :: s_l.drop (k)).map HeldV.segs by simp <;> rfl)
      have hw9 : St _ (hs23 ++ H) w := hw.c
      obtain ⟨M9, s9, g1, g2, g3, g4, g5⟩ := ho7.freezeK hw9
      refine ⟨_, M9, rfl, g1, g2, s9, g3, ?_, g5, fun h hh => ?_⟩
      ·rw [g4]; exact (withS_neV hk9 (fun j h2 hj => hI j h2 hj) (fun h8 => by first | assumption | omega) (fun h8 => by first | assumption | omega)).symm
      ·rw [g4] at hh
       rcases List.mem_append.1 hh with hh | hh
       ·exact (l_s h (List.mem_of_mem_take hh)).mono g1
       ·rcases List.mem_cons.1 hh with rfl | hh
        ·exact ⟨hc2.mono g1⟩
        ·exact (l_s h (List.mem_of_mem_drop hh)).mono g1
    ·replace hc15 := dF hc15
     (exfalso; omega)
  ·replace hc3 := dF hc3
   iterate 7 refine Y_skip ?_
   refine Y_pick ?_
   refine XD_end ?_
   refine K_then ?_
   refine C_false rfl ?_
   refine C_exit ?_
   iterate 2 refine K_exit ?_
   refine K_hit ?_
   refine K_then ?_
   refine Y_pk [8, 7, 6, 5, 4, 0] ?_
   refine C_seq ?_
   have k_d0 := k_s.drop k hk9
   refine C_region (l := [0, 1, 2, 3, 4, 5, 6]) rfl ?_
   refine Y_move ?_
   refine Y_load F.lay33 ?_
   refine Y_load F.lay37 ?_
   refine X_build rfl rfl F.bld49 (.cons rfl (by constructor) (.cons rfl (by constructor) .nil)) rfl rfl ?_
   refine X_buildSliceF rfl rfl F.elem31 F.zero49 rfl rfl (.cons rfl (by constructor) .nil) rfl rfl (by simp only [List.map_cons, List.map_nil] <;> rfl) rfl ?_; intro b28 hob29
   refine X_append (m := 1000000) rfl rfl rfl rfl rfl F.elem31 F.zero49 (by exact agg_size rfl) rfl (by assumption) (by repeat first | exact Rem.here _ | exact Rem.two | apply Rem.skip | apply Rem.over) (Src.own hob29.lens (by (refine rows_one1 ?_; (repeat (first | exact flat_nil | refine flat_id ?_ | (refine flat_one ?_ ?_; rfl))); done)) rfl (by repeat first | exact List.Mem.head _ | refine List.Mem.tail _ ?_ | refine List.mem_append_right _ ?_)) (by (simp; omega)) (by decide) rfl ?_; intro v32 hs31 ho30; obtain ⟨adv32, cpv32, rfl⟩ := ho30.val
   refine Y_assign ?_
   refine XD_end ?_
   refine K_then ?_
   refine Y_pk [7, 8, 6, 4, 0] ?_
   iterate 2 refine C_seq ?_
   refine C_region_any (l := [0, 1, 2, 3, 4, 5, 6, 7, 8, 9, 10, 11, 12]) #[0, 0, 2, 7, 15, 31, 31, 127, 255, 511, 31, 2047, 4095] _ rfl (by kernel_rfl) (by kernel_rfl) St.drawn (fun _ h => h) ?_
   iterate 2 refine Y_move ?_
   refine Y_len_sl F.elem31 ?_
   refine Y_cmp ?_
   refine Y_move ?_
   refine XD_part 41 rfl (fun hc33 => ?_) (fun hc33 => ?_)
   ·replace hc33 := dT hc33
    (exfalso; omega)
   ·replace hc33 := dF hc33
    iterate 7 refine Y_skip ?_
    refine Y_pick ?_
    refine XD_end ?_
    refine K_then ?_
    refine Y_pk [49, 7, 8, 6, 0] ?_
    refine C_false rfl ?_
    refine C_skip ?_
    refine K_then ?_
    refine Y_pk [7, 8, 6, 0] ?_
    refine C_seq ?_
    refine C_region (l := [0, 1, 2, 3, 4, 5]) rfl ?_
    iterate 3 refine Y_move ?_
    refine X_slice rfl rfl rfl (.some (k := k) rfl (by rfl)) .none .none F.elem31 (by simp only [Option.getD_none]; omega) (by simp only [Option.getD_some, Option.getD_none]; omega) (by simp only [Option.getD_some, Option.getD_none]; omega) (by simp) (pieceV_drop (l := s_l) (k := k)) rfl ?_
    refine X_appendK (m := 1000000) rfl rfl rfl rfl rfl F.elem31 F.zero49 (by exact agg_size rfl) rfl (by assumption) (by repeat first | exact Rem.here _ | exact Rem.two | apply Rem.skip | apply Rem.over) ((by exact k_d0.h1)) HeldV.flat (by (simp; omega)) (by decide) rfl ?_; intro v45 hs44 ho43; obtain ⟨adv45, cpv45, rfl⟩ := ho43.val
    refine Y_assign ?_
    refine XD_end ?_
    refine K_then ?_
    refine Y_pk [6] ?_
    refine C_ret ?_
    refine K_end (.inr rfl) (.tmp rfl .nil) (fun w hw => ?_)
    have ho7 := (ho43).as9 (show _ = (s_l.take k ++ (⟨key, ⟨c_version, c_has, c_val, ⟨c_marks_a, c_marks_c, c_marks_l⟩⟩⟩ : HeldV) :: s_l.drop (k)).map HeldV.segs by simp <;> rfl)
    have hw9 : St _ (hs44 ++ H) w := hw.c
    obtain ⟨M9, s9, g1, g2, g3, g4, g5⟩ := ho7.freezeK hw9
    refine ⟨_, M9, rfl, g1, g2, s9, g3, ?_, g5, fun h hh => ?_⟩
    ·rw [g4]; exact (withS_neV hk9 (fun j h2 hj => hI j h2 hj) (fun h8 => by first | assumption | omega) (fun h8 => by first | assumption | omega)).symm
    ·rw [g4] at hh
     rcases List.mem_append.1 hh with hh | hh
     ·exact (l_s h (List.mem_of_mem_take hh)).mono g1
     ·rcases List.mem_cons.1 hh with rfl | hh
      ·exact ⟨hc2.mono g1⟩
      ·exact (l_s h (List.mem_of_mem_drop hh)).mono g1

theorem rPut_ok (M : Mem) (s : (Sl HeldV)) (key : Plc) (c : CellV) (hs0 : SlK M HeldV.segs 24 s) (hs1 : ∀ y ∈ (s).l, HeldV.ok M y) (hc2 : CellV.ok M c) : Esp.Fn Try.prog 20 [Sl.val s, aggV [idSeg key], c.enc] M (fun M' v => StE M' v (putR (pls s.l) key c.pl)) := by
  obtain ⟨s_a, s_c, s_l⟩ := s
  obtain ⟨c_version, c_has, c_val, ⟨c_marks_a, c_marks_c, c_marks_l⟩⟩ := c
  have k_s : SlK M HeldV.segs 24 ⟨s_a, s_c, s_l⟩ := hs0
  have s_s : SlM M s_a (s_l.map HeldV.segs) 24 := k_s.h1
  have n_s : (s_l.map HeldV.segs).length = s_l.length := List.length_map ..
  have m_s : s_l.length ≤ 9223372036854775807 := k_s.h2
  have c_s : s_l.length ≤ s_c := k_s.h3
  have l_s : ∀ y ∈ s_l, HeldV.ok M y := hs1
  have k_c_marks : SlK M MarkV.segs 6 ⟨c_marks_a, c_marks_c, c_marks_l⟩ := hc2.h0
  have s_c_marks : SlM M c_marks_a (c_marks_l.map MarkV.segs) 6 := k_c_marks.h1
  have n_c_marks : (c_marks_l.map MarkV.segs).length = c_marks_l.length := List.length_map ..
  have m_c_marks : c_marks_l.length ≤ 9223372036854775807 := k_c_marks.h2
  have c_c_marks : c_marks_l.length ≤ c_marks_c := k_c_marks.h3
  show Esp.Fn _ _ _ _ (fun M' v => StE M' v (putR (pls s_l) key (CellV.pl ⟨c_version, c_has, c_val, ⟨c_marks_a, c_marks_c, c_marks_l⟩⟩)))
  refine fn_enter Try.func20 rfl Try.ntmps20 rfl ?_; intro H
  refine C_seq ?_
  refine C_region (l := [0, 1, 2, 3]) rfl ?_
  refine Y_box ?_; intro b1
  refine Y_box ?_; intro b2
  iterate 2 refine Y_assign ?_
  refine XD_end ?_
  refine K_then ?_
  refine Y_pk [7, 6, 5, 4, 0] ?_
  iterate 2 refine C_seq ?_
  refine C_region (l := [0, 1, 2, 3, 4, 5, 6, 7]) rfl ?_
  refine Y_move ?_
  refine X_fs rfl rfl F.ok24 rfl (rStIs_ok _ ⟨_, _, _⟩ (by assumption) (by assumption)) rfl ?_
  rintro _ rfl
  refine Y_not ?_
  refine Y_move ?_
  refine XD_part 12 rfl (fun hc3 => ?_) (fun hc3 => ?_)
  ·replace hc3 := nT hc3
   simp only [AnswerV.eta, MarkV.eta, CellV.eta, HeldV.eta, PeerV.eta] at hc3
   iterate 3 refine Y_skip ?_
   refine Y_pick ?_
   refine XD_end ?_
   refine K_then ?_
   refine Y_pk [16, 7, 6, 5, 4, 0] ?_
   refine C_true rfl ?_
   refine C_seq ?_
   refine C_region (l := [0, 1]) rfl ?_
   iterate 2 refine Y_assign ?_
   refine XD_end ?_
   refine K_then ?_
   refine Y_pk [7, 6, 5, 4, 0] ?_
   refine C_ret ?_
   refine K_ret ?_
   refine K_end (.inr rfl) (.tmp rfl (.tmp rfl .nil)) (fun w hw => ?_)
   refine ⟨_, M, rfl, Mem.le.refl M, hw.c, ?_⟩
   rw [show putR (pls s_l) key (CellV.pl ⟨c_version, c_has, c_val, ⟨c_marks_a, c_marks_c, c_marks_l⟩⟩) = ([], 1) from if_neg (by rintro ⟨g1, g2⟩; contradiction)]
   exact StE.nil
  ·replace hc3 := nF hc3
   simp only [AnswerV.eta, MarkV.eta, CellV.eta, HeldV.eta, PeerV.eta] at hc3
   refine Y_load F.lay37 ?_
   refine X_fs rfl rfl F.ok43 rfl (rCelIs_ok _ ⟨c_version, c_has, c_val, ⟨c_marks_a, c_marks_c, c_marks_l⟩⟩ hc2) rfl ?_
   rintro _ rfl
   refine Y_not ?_
   refine Y_pick ?_
   refine XD_end ?_
   refine K_then ?_
   refine Y_pk [16, 7, 6, 5, 4, 0] ?_
   refine C_cond rfl (fun hc4 => ?_) (fun hc4 => ?_)
   ·replace hc4 := nT hc4
    refine C_seq ?_
    refine C_region (l := [0, 1]) rfl ?_
    iterate 2 refine Y_assign ?_
    refine XD_end ?_
    refine K_then ?_
    refine Y_pk [7, 6, 5, 4, 0] ?_
    refine C_ret ?_
    refine K_ret ?_
    refine K_end (.inr rfl) (.tmp rfl (.tmp rfl .nil)) (fun w hw => ?_)
    refine ⟨_, M, rfl, Mem.le.refl M, hw.c, ?_⟩
    rw [show putR (pls s_l) key (CellV.pl ⟨c_version, c_has, c_val, ⟨c_marks_a, c_marks_c, c_marks_l⟩⟩) = ([], 1) from if_neg (by rintro ⟨g1, g2⟩; contradiction)]
    exact StE.nil
   ·replace hc4 := nF hc4
    refine C_skip ?_
    refine K_then ?_
    refine Y_pk [7, 6, 5, 4, 0] ?_
    refine C_seq ?_
    have hst0 : IsSt (pls s_l) := by assumption
    have hcc : IsCel (CellV.pl ⟨c_version, c_has, c_val, ⟨c_marks_a, c_marks_c, c_marks_l⟩⟩) := by assumption
    have hsl := hst0.1
    rw [pls_len] at hsl
    refine C_region (l := [0, 1, 2, 3, 4]) rfl ?_
    refine Y_move ?_
    refine Y_load F.lay33 ?_
    refine Y_load F.lay37 ?_
    refine X_fn rfl rfl F.ok44 rfl (with_ok _ ⟨s_a, s_c, s_l⟩ key ⟨c_version, c_has, c_val, ⟨c_marks_a, c_marks_c, c_marks_l⟩⟩ k_s l_s hc2 (by show s_l.length ≤ 900000; omega)) rfl ?_
    rintro _ M2 hm2 ⟨⟨q_a, q_c, q_l⟩, rfl, g9, k_q, l_q⟩
    try simp only at g9 l_q
    refine Y_assign ?_
    refine XD_end ?_
    refine K_then ?_
    refine Y_pk [8, 7, 6] ?_
    iterate 2 refine C_seq ?_
    refine C_region (l := [0, 1, 2]) rfl ?_
    refine Y_move ?_
    refine Y_len_sl F.elem31 ?_
    refine Y_cmp ?_
    refine XD_end ?_
    refine K_then ?_
    refine Y_pk [23, 8, 7, 6] ?_
    refine C_cond rfl (fun hc5 => ?_) (fun hc5 => ?_)
    ·replace hc5 := dT hc5
     refine C_seq ?_
     refine C_region (l := [0, 1]) rfl ?_
     iterate 2 refine Y_assign ?_
     refine XD_end ?_
     refine K_then ?_
     refine Y_pk [7, 6, 8] ?_
     refine C_ret ?_
     refine K_ret ?_
     refine K_end (.inr rfl) (.tmp rfl (.tmp rfl .nil)) (fun w hw => ?_)
     refine ⟨_, M2, rfl, hm2, hw.c, ?_⟩
     rw [show putR (pls s_l) key (CellV.pl ⟨c_version, c_has, c_val, ⟨c_marks_a, c_marks_c, c_marks_l⟩⟩) = ([], 12) from by unfold putR; rw [if_pos ⟨hst0, hcc⟩, if_pos (by rw [← g9, pls_len]; omega)]]
     exact StE.nil
    ·replace hc5 := dF hc5
     refine C_skip ?_
     refine K_then ?_
     refine Y_pk [8, 7, 6] ?_
     refine C_seq ?_
     refine C_region (l := [0, 1, 2]) rfl ?_
     refine Y_move ?_
     iterate 2 refine Y_assign ?_
     refine XD_end ?_
     refine K_then ?_
     refine Y_pk [7, 6] ?_
     refine C_ret ?_
     refine K_end (.inr rfl) (.tmp rfl (.tmp rfl .nil)) (fun w hw => ?_)
     refine ⟨_, M2, rfl, hm2, hw.c, ?_⟩
     rw [show putR (pls s_l) key (CellV.pl ⟨c_version, c_has, c_val, ⟨c_marks_a, c_marks_c, c_marks_l⟩⟩) = (withS (pls s_l) key (CellV.pl ⟨c_version, c_has, c_val, ⟨c_marks_a, c_marks_c, c_marks_l⟩⟩), 0) from by unfold putR; rw [if_pos ⟨hst0, hcc⟩, if_neg (by rw [← g9, pls_len]; omega)]]
     exact ⟨⟨q_a, q_c, q_l⟩, rfl, g9, k_q, l_q⟩

end Go.Proofs.Ytbafnjniijodfaa
/-
  Two stores blended, as the document has it.
-/
set_option linter.unusedSimpArgs false
set_option linter.unusedVariables false
set_option linter.unnecessarySimpa false
set_option maxRecDepth 8000
set_option maxHeartbeats 1000000
namespace Go.Proofs.Ytbafnjniijodfaa
open Go.Esp
theorem F.ok18 : okFn Try.prog 18 = true := by kernel_rfl
theorem F.ok45 : okFn Try.prog 45 = true := by kernel_rfl

theorem rBlend_ok (M : Mem) (s : (Sl HeldV)) (t : (Sl HeldV)) (hs0 : SlK M HeldV.segs 24 s) (hs1 : ∀ y ∈ (s).l, HeldV.ok M y) (ht2 : SlK M HeldV.segs 24 t) (ht3 : ∀ y ∈ (t).l, HeldV.ok M y) : Esp.Fn Try.prog 22 [Sl.val s, Sl.val t] M (fun M' v => StE M' v (blendR (pls s.l) (pls t.l))) := by
  obtain ⟨s_a, s_c, s_l⟩ := s
  obtain ⟨t_a, t_c, t_l⟩ := t
  have k_s : SlK M HeldV.segs 24 ⟨s_a, s_c, s_l⟩ := hs0
  have s_s : SlM M s_a (s_l.map HeldV.segs) 24 := k_s.h1
  have n_s : (s_l.map HeldV.segs).length = s_l.length := List.length_map ..
  have m_s : s_l.length ≤ 9223372036854775807 := k_s.h2
  have c_s : s_l.length ≤ s_c := k_s.h3
  have l_s : ∀ y ∈ s_l, HeldV.ok M y := hs1
  have k_t : SlK M HeldV.segs 24 ⟨t_a, t_c, t_l⟩ := ht2
  have s_t : SlM M t_a (t_l.map HeldV.segs) 24 := k_t.h1
  have n_t : (t_l.map HeldV.segs).length = t_l.length := List.length_map ..
  have m_t : t_l.length ≤ 9223372036854775807 := k_t.h2
  have c_t : t_l.length ≤ t_c := k_t.h3
  have l_t : ∀ y ∈ t_l, HeldV.ok M y := ht3
  show Esp.Fn _ _ _ _ (fun M' v => StE M' v (blendR (pls s_l) (pls t_l)))
  refine fn_enter Try.func22 rfl Try.ntmps22 rfl ?_; intro H
  refine C_seq ?_
  refine C_region (l := [0, 1]) rfl ?_
  iterate 2 refine Y_assign ?_
  refine XD_end ?_
  refine K_then ?_
  iterate 2 refine C_seq ?_
  refine C_region (l := [0, 1, 2, 3, 4, 5, 6, 7]) rfl ?_
  refine Y_move ?_
  refine X_fs rfl rfl F.ok24 rfl (rStIs_ok _ ⟨_, _, _⟩ (by assumption) (by assumption)) rfl ?_
  rintro _ rfl
  refine Y_not ?_
  refine Y_move ?_
  refine XD_part 15 rfl (fun hc1 => ?_) (fun hc1 => ?_)
  ·replace hc1 := nT hc1
   simp only [AnswerV.eta, MarkV.eta, CellV.eta, HeldV.eta, PeerV.eta] at hc1
   iterate 3 refine Y_skip ?_
   refine Y_pick ?_
   refine XD_end ?_
   refine K_then ?_
   refine Y_pk [19, 5, 4, 0, 1] ?_
   refine C_true rfl ?_
   refine C_seq ?_
   refine C_region (l := [0, 1]) rfl ?_
   iterate 2 refine Y_assign ?_
   refine XD_end ?_
   refine K_then ?_
   refine Y_pk [5, 4, 0, 1] ?_
   refine C_ret ?_
   refine K_ret ?_
   refine K_end (.inr rfl) (.tmp rfl (.tmp rfl .nil)) (fun w hw => ?_)
   refine ⟨_, M, rfl, Mem.le.refl M, hw.c, ?_⟩
   rw [show blendR (pls s_l) (pls t_l) = ([], 1) from if_neg (by rintro ⟨g1, g2⟩; contradiction)]
   exact StE.nil
  ·replace hc1 := nF hc1
   simp only [AnswerV.eta, MarkV.eta, CellV.eta, HeldV.eta, PeerV.eta] at hc1
   refine Y_move ?_
   refine X_fs rfl rfl F.ok24 rfl (rStIs_ok _ ⟨_, _, _⟩ (by assumption) (by assumption)) rfl ?_
   rintro _ rfl
   refine Y_not ?_
   refine Y_pick ?_
   refine XD_end ?_
   refine K_then ?_
   refine Y_pk [19, 5, 4, 0, 1] ?_
   refine C_cond rfl (fun hc2 => ?_) (fun hc2 => ?_)
   ·replace hc2 := nT hc2
    simp only [AnswerV.eta, MarkV.eta, CellV.eta, HeldV.eta, PeerV.eta] at hc2
    refine C_seq ?_
    refine C_region (l := [0, 1]) rfl ?_
    iterate 2 refine Y_assign ?_
    refine XD_end ?_
    refine K_then ?_
    refine Y_pk [5, 4, 0, 1] ?_
    refine C_ret ?_
    refine K_ret ?_
    refine K_end (.inr rfl) (.tmp rfl (.tmp rfl .nil)) (fun w hw => ?_)
    refine ⟨_, M, rfl, Mem.le.refl M, hw.c, ?_⟩
    rw [show blendR (pls s_l) (pls t_l) = ([], 1) from if_neg (by rintro ⟨g1, g2⟩; contradiction)]
    exact StE.nil
   ·replace hc2 := nF hc2
    simp only [AnswerV.eta, MarkV.eta, CellV.eta, HeldV.eta, PeerV.eta] at hc2
    refine C_skip ?_
    refine K_then ?_
    refine Y_pk [5, 4, 0, 1] ?_
    refine C_seq ?_
    have hst0 : IsSt (pls s_l) := by assumption
    have htt : IsSt (pls t_l) := by assumption
    have hsl := hst0.1
    have htl := htt.1
    rw [pls_len] at hsl htl
    refine C_region (l := [0]) rfl ?_
    refine Y_assign ?_
    refine XD_end ?_
    refine K_then ?_
    refine C_seq ?_
    refine C_region (l := [0, 1, 2, 3]) rfl ?_
    iterate 2 refine Y_move ?_
    refine X_appendK (m := 1000000) rfl rfl rfl rfl rfl F.elem31 F.zero49 (by exact agg_size rfl) rfl (by exact OSl.nil) (by repeat first | exact Rem.here _ | exact Rem.two | apply Rem.skip | apply Rem.over) (s_s) HeldV.flat (by (simp; omega)) (by decide) rfl ?_; intro v5 hs4 ho3; obtain ⟨adv5, cpv5, rfl⟩ := ho3.val
    refine Y_assign ?_
    refine XD_end ?_
    refine K_then ?_
    refine Y_pk [6, 5, 4, 0, 1] ?_
    iterate 2 refine C_seq ?_
    have hml : (([] : List Segs) ++ s_l.map HeldV.segs).length = s_l.length := by simp
    rw [hml]
    have ho0 : OSl 49 24 (.slice adv5 s_l.length cpv5) hs4 (s_l.map HeldV.segs) := by have h9 := ho3; rw [hml] at h9; exact h9
    refine C_frz ho0 (by repeat first | exact Rem.here _ | exact Rem.two | apply Rem.skip | apply Rem.over) (fun M0 hm0 k_q0 => ?_)
    obtain ⟨q0, hq0e⟩ : ∃ q0 : Sl HeldV, q0 = ⟨adv5, cpv5, s_l⟩ := ⟨_, rfl⟩
    have e0 : Value.slice adv5 s_l.length cpv5 = q0.val := by rw [hq0e]; rfl
    rw [e0]
    rw [← hq0e] at k_q0
    have hq0 : pls q0.l = ((pls t_l).take (0)).foldl (blendS mergedT) (pls s_l) := by rw [hq0e]; rfl
    have l_q0 : ∀ h ∈ q0.l, HeldV.ok M0 h := by rw [hq0e]; exact fun h hh => (l_s h hh).mono hm0
    have s_t0 := s_t.mono hm0
    refine C_region (l := [0]) rfl ?_
    refine Y_assign ?_
    refine XD_end ?_
    refine K_then ?_
    refine C_block ?_
    refine Y_pk [7, 6, 5, 4, 0, 1] ?_
    refine C_loopO (Hin := []) (.succ (.succ .zero)) (by repeat first | exact Rem.here _ | exact Rem.two | apply Rem.skip | apply Rem.over) (fun (k : Nat) M1 h1 z => ∃ q : Sl HeldV, h1 = [] ∧ z = [(7, .int .i64 (k : Int)), (6, Sl.val q)] ∧ k ≤ t_l.length ∧ pls q.l = ((pls t_l).take (k)).foldl (blendS mergedT) (pls s_l) ∧ SlK M1 HeldV.segs 24 q ∧ ∀ h ∈ q.l, HeldV.ok M1 h) (fun k => t_l.length - k) (0) (⟨q0, rfl, rfl, by omega, hq0, k_q0, l_q0⟩) ?_
    rintro k M1 h1 z hm1 ⟨⟨q_a, q_c, q_l⟩, rfl, rfl, hk, hql, k_q, l_q⟩
    try simp only at hql l_q
    have hmm := hm0.trans hm1
    have s_t1 := s_t.mono hmm
    have hqn : q_l.length ≤ 900000 := by
     have h9 := (foldB_len (two := mergedT) (l := (pls t_l).take k) (s := pls s_l)).2
     rw [← hql, pls_len, pls_len, List.length_take, pls_len] at h9
     omega
    iterate 2 refine C_seq ?_
    refine C_region (l := [0, 1, 2, 3]) rfl ?_
    iterate 2 refine Y_move ?_
    refine Y_len_sl F.elem31 ?_
    refine Y_cmp ?_
    refine XD_end ?_
    refine K_then ?_
    refine C_cond rfl (fun hc6 => ?_) (fun hc6 => ?_)
    ·replace hc6 := dT hc6
     refine C_skip ?_
     refine K_then ?_
     refine C_seq ?_
     refine C_block ?_
     refine C_seq ?_
     have hpk : (pls t_l)[k]'(by rw [pls_len]; omega) = HeldV.pl t_l[k] := by simp [pls]
     refine C_region (l := [0, 1, 2, 3, 4, 5, 6, 7, 8, 9, 10, 11, 12]) rfl ?_
     iterate 3 refine Y_move ?_
     refine X_indexAddr rfl rfl rfl rfl F.elem31 (by rfl) (by omega) (by exact SlM.plain (by assumption) (by (simp; omega))) rfl ?_
     refine X_fieldAddr_el rfl rfl rfl (by exact SlM.plain (by assumption) (by (simp; omega))) F.foff49_0 rfl ?_
     refine X_load_el rfl rfl rfl (by assumption) (by exact row_map (by omega)) F.lay33 rfl rfl rfl ?_
     refine X_fs rfl rfl F.ok18 rfl (rFind_ok _ ⟨s_a, s_c, s_l⟩ t_l[k].key (k_s.mono hmm) (fun y hy => (l_s y hy).mono hmm)) rfl ?_
     rintro _ hv
     obtain ⟨⟨xc, xb⟩, hx⟩ : ∃ r, findX s_l t_l[k].key = r := ⟨_, rfl⟩
     replace hv : _ = findXv (findX s_l t_l[k].key) := hv
     rw [hx] at hv
     subst hv
     obtain ⟨x_v, x_h, x_s, ⟨x_a, x_c, x_l⟩⟩ := xc
     refine Y_move ?_
     iterate 2 refine Y_extract ?_
     refine Y_alloc F.zero37 ?_; intro b7
     refine Y_store F.lay37 ?_
     refine Y_assign ?_
     refine XD_end ?_
     refine K_then ?_
     iterate 2 refine C_seq ?_
     refine C_region (l := [0, 1]) rfl ?_
     refine Y_move ?_
     refine Y_not ?_
     refine XD_end ?_
     refine K_then ?_
     refine C_cond rfl (fun hc8 => ?_) (fun hc8 => ?_)
     ·skip
      simp only [AnswerV.eta, MarkV.eta, CellV.eta, HeldV.eta, PeerV.eta] at hc8
      refine C_region (l := [0, 1, 2, 3, 4, 5]) rfl ?_
      iterate 2 refine Y_move ?_
      refine X_indexAddr rfl rfl rfl rfl F.elem31 (by rfl) (by omega) (by exact SlM.plain (by assumption) (by (simp; omega))) rfl ?_
      refine X_fieldAddr_el rfl rfl rfl (by exact SlM.plain (by assumption) (by (simp; omega))) F.foff49_1 rfl ?_
      refine X_load_el rfl rfl rfl (by assumption) (by exact row_map (by omega)) F.lay37 rfl rfl rfl ?_
      refine Y_store F.lay37 ?_
      refine XD_end ?_
      refine K_then ?_
      refine C_region_any (l := [0, 1, 2, 3, 4, 5, 6, 7, 8]) #[0, 0, 0, 6, 14, 30, 0, 127, 255] _ rfl (by kernel_rfl) (by kernel_rfl) St.drawn (fun _ h => h) ?_
      iterate 3 refine Y_move ?_
      refine X_indexAddr rfl rfl rfl rfl F.elem31 (by rfl) (by omega) (by exact SlM.plain (by assumption) (by (simp; omega))) rfl ?_
      refine X_fieldAddr_el rfl rfl rfl (by exact SlM.plain (by assumption) (by (simp; omega))) F.foff49_0 rfl ?_
      refine X_load_el rfl rfl rfl (by assumption) (by exact row_map (by omega)) F.lay33 rfl rfl rfl ?_
      refine Y_load F.lay37 ?_
      refine X_fn rfl rfl F.ok44 rfl (with_ok _ ⟨q_a, q_c, q_l⟩ t_l[k].key t_l[k].cell (k_q.mono (by exact Mem.le.refl _)) (fun y hy => (l_q y hy).mono (by exact Mem.le.refl _)) ((l_t _ (List.getElem_mem (by omega))).h0.mono hmm) hqn) rfl ?_
      rintro _ M2 hm2 ⟨⟨r_a, r_c, r_l⟩, rfl, g8, k_r, l_r⟩
      try simp only at g8 l_r
      refine Y_assign ?_
      refine XD_end ?_
      refine K_out ?_
      refine K_then ?_
      refine C_region (l := [0, 1, 2]) rfl ?_
      refine Y_move ?_
      refine X_ari rfl rfl rfl rfl rfl (by exact wrap_in (by decide) (by omega)) rfl ?_
      refine Y_assign ?_
      refine XD_end ?_
      refine K_roundO (a' := [(7, _), (6, _)]) (k + 1) ([]) (.cons (k := 7) rfl (.cons (k := 6) rfl (.cons (k := 5) rfl (.cons (k := 4) rfl (.cons (k := 0) rfl (.cons (k := 1) rfl (.nil))))))) (hm1.trans hm2) (fun w hw => by first | exact hw | exact hw.c) ?_ ?_
      ·refine ⟨⟨r_a, r_c, r_l⟩, rfl, rfl, by omega, ?_, k_r, l_r⟩
       rw [blend_step hst0.2 htt.2 (by rw [pls_len]; omega), ← hql, hpk]
       show pls r_l = withS (pls q_l) t_l[k].key _
       rw [g8]
       congr 1
       rw [show findS (pls s_l) (HeldV.pl t_l[k]).key = _ from findX_S hx, show xb = false from by have h9 := ‹(!xb) = true›; simpa using h9]
       rfl
      ·omega
     ·skip
      simp only [AnswerV.eta, MarkV.eta, CellV.eta, HeldV.eta, PeerV.eta] at hc8
      refine C_seq ?_
      have okx : CellV.ok M1 ⟨x_v, x_h, x_s, ⟨x_a, x_c, x_l⟩⟩ := by
       obtain ⟨y, g1, g2, g3⟩ := findX_mem (l := s_l) (k := t_l[k].key) (by rw [hx]; have h9 := ‹(!xb) = false›; simpa using h9)
       rw [hx] at g3
       have := ((l_s y g1).mono hmm).h0
       rw [g3] at this
       exact this
      refine C_region_any (l := [0, 1, 2, 3, 4, 5, 6, 7, 8, 9, 10, 11, 12]) #[0, 0, 0, 6, 14, 30, 63, 127, 255, 255, 0, 1535, 4095] _ rfl (by kernel_rfl) (by kernel_rfl) St.drawn (fun _ h => h) ?_
      refine Y_load F.lay37 ?_
      iterate 2 refine Y_move ?_
      refine X_indexAddr rfl rfl rfl rfl F.elem31 (by rfl) (by omega) (by exact SlM.plain (by assumption) (by (simp; omega))) rfl ?_
      refine X_fieldAddr_el rfl rfl rfl (by exact SlM.plain (by assumption) (by (simp; omega))) F.foff49_1 rfl ?_
      refine X_load_el rfl rfl rfl (by assumption) (by exact row_map (by omega)) F.lay37 rfl rfl rfl ?_
      refine X_fn rfl rfl F.ok45 rfl (rMerge_ok _ ⟨x_v, x_h, x_s, ⟨x_a, x_c, x_l⟩⟩ t_l[k].cell okx ((l_t _ (List.getElem_mem (by omega))).h0.mono hmm)) rfl ?_
      rintro _ M3 hm3 ⟨⟨y_v, y_h, y_s, ⟨y_a, y_c, y_l⟩⟩, rfl, hy, oky⟩
      refine Y_move ?_
      iterate 2 refine Y_extract ?_
      refine Y_alloc F.zero37 ?_; intro b9
      refine Y_store F.lay37 ?_
      refine Y_assign ?_
      refine XD_end ?_
      refine K_then ?_
      refine Y_pk [10, 55, 54, 46, 53, 52, 51, 50, 49, 48, 47, 40, 39, 9, 8, 38, 37, 29, 36, 35, 34, 33, 32, 31, 30, 26, 25, 24, 23, 7, 6, 5, 4, 0, 1] ?_
      refine C_region (l := [0, 1]) rfl ?_
      refine Y_load F.lay37 ?_
      refine Y_store F.lay37 ?_
      refine XD_end ?_
      refine K_then ?_
      refine C_region_any (l := [0, 1, 2, 3, 4, 5, 6, 7, 8]) #[0, 0, 0, 6, 14, 30, 0, 127, 255] _ rfl (by kernel_rfl) (by kernel_rfl) St.drawn (fun _ h => h) ?_
      iterate 3 refine Y_move ?_
      refine X_indexAddr rfl rfl rfl rfl F.elem31 (by rfl) (by omega) (by exact SlM.plain (by assumption) (by (simp; omega))) rfl ?_
      refine X_fieldAddr_el rfl rfl rfl (by exact SlM.plain (by assumption) (by (simp; omega))) F.foff49_0 rfl ?_
      refine X_load_el rfl rfl rfl (by exact SlM.mono (by assumption) (by assumption)) (by exact row_map (by omega)) F.lay33 rfl rfl rfl ?_
      refine Y_load F.lay37 ?_
      refine X_fn rfl rfl F.ok44 rfl (with_ok _ ⟨q_a, q_c, q_l⟩ t_l[k].key (⟨y_v, y_h, y_s, ⟨y_a, y_c, y_l⟩⟩ : CellV) (k_q.mono (by assumption)) (fun y hy => (l_q y hy).mono (by assumption)) oky hqn) rfl ?_
      rintro _ M2 hm2 ⟨⟨r_a, r_c, r_l⟩, rfl, g8, k_r, l_r⟩
      try simp only at g8 l_r
      refine Y_assign ?_
      refine XD_end ?_
      refine K_out ?_
      refine K_then ?_
      refine C_region (l := [0, 1, 2]) rfl ?_
      refine Y_move ?_
      refine X_ari rfl rfl rfl rfl rfl (by exact wrap_in (by decide) (by omega)) rfl ?_
      refine Y_assign ?_
      refine XD_end ?_
      refine K_roundO (a' := [(7, _), (6, _)]) (k + 1) ([]) (.cons (k := 7) rfl (.cons (k := 6) rfl (.cons (k := 5) rfl (.cons (k := 4) rfl (.cons (k := 0) rfl (.cons (k := 1) rfl (.nil))))))) (hm1.trans (hm3.trans hm2)) (fun w hw => by first | exact hw | exact hw.c) ?_ ?_
      ·refine ⟨⟨r_a, r_c, r_l⟩, rfl, rfl, by omega, ?_, k_r, l_r⟩
       rw [blend_step hst0.2 htt.2 (by rw [pls_len]; omega), ← hql, hpk]
       show pls r_l = withS (pls q_l) t_l[k].key _
       rw [g8]
       congr 1
       rw [show findS (pls s_l) (HeldV.pl t_l[k]).key = _ from findX_S hx, show xb = true from by have h9 := ‹(!xb) = false›; simpa using h9]
       exact hy
      ·omega
    ·replace hc6 := dF hc6
     refine C_exit ?_
     iterate 2 refine K_exit ?_
     refine K_hit ?_
     refine K_then ?_
     refine Y_pk [6, 5, 4] ?_
     iterate 2 refine C_seq ?_
     refine C_region (l := [0, 1, 2]) rfl ?_
     refine Y_move ?_
     refine Y_len_sl F.elem31 ?_
     refine Y_cmp ?_
     refine XD_end ?_
     refine K_then ?_
     refine Y_pk [67, 6, 5, 4] ?_
     refine C_cond rfl (fun hc10 => ?_) (fun hc10 => ?_)
     ·replace hc10 := dT hc10
      refine C_seq ?_
      refine C_region (l := [0, 1]) rfl ?_
      iterate 2 refine Y_assign ?_
      refine XD_end ?_
      refine K_then ?_
      refine Y_pk [5, 4, 6] ?_
      refine C_ret ?_
      refine K_ret ?_
      refine K_end (.inr rfl) (.tmp rfl (.tmp rfl .nil)) (fun w hw => ?_)
      obtain rfl : k = t_l.length := by omega
      rw [List.take_of_length_le (by rw [pls_len]; omega)] at hql
      refine ⟨_, M1, rfl, hmm, hw.c, ?_⟩
      rw [show blendR (pls s_l) (pls t_l) = ([], 12) from by unfold blendR; rw [if_pos ⟨hst0, htt⟩, if_pos (by rw [← hql, pls_len]; omega)]]
      exact StE.nil
     ·replace hc10 := dF hc10
      refine C_skip ?_
      refine K_then ?_
      refine Y_pk [6, 5, 4] ?_
      refine C_seq ?_
      refine C_region (l := [0, 1, 2]) rfl ?_
      refine Y_move ?_
      iterate 2 refine Y_assign ?_
      refine XD_end ?_
      refine K_then ?_
      refine Y_pk [5, 4] ?_
      refine C_ret ?_
      refine K_end (.inr rfl) (.tmp rfl (.tmp rfl .nil)) (fun w hw => ?_)
      obtain rfl : k = t_l.length := by omega
      rw [List.take_of_length_le (by rw [pls_len]; omega)] at hql
      refine ⟨_, M1, rfl, hmm, hw.c, ?_⟩
      rw [show blendR (pls s_l) (pls t_l) = ((pls t_l).foldl (blendS mergedT) (pls s_l), 0) from by unfold blendR; rw [if_pos ⟨hst0, htt⟩, if_neg (by rw [← hql, pls_len]; omega)]]
      exact ⟨⟨q_a, q_c, q_l⟩, rfl, hql, k_q, l_q⟩

end Go.Proofs.Ytbafnjniijodfaa
/-
  Stores of a circle, in plain Lean: who keeps what; healed ones.
-/
set_option linter.unusedSimpArgs false
set_option linter.unusedVariables false
set_option linter.unnecessarySimpa false
namespace Go.Esp
def plss (l : List (Sl HeldV)) : List (List Hd) := l.map fun s => pls s.l
theorem plss_len (l : List (Sl HeldV)) : (plss l).length = l.length := List.length_map ..
theorem plss_at {l : List (Sl HeldV)} {k : Nat} (hk : k < l.length) : (plss l)[k]'(by rw [plss_len]; exact hk) = pls l[k].l := by unfold plss; rw [List.getElem_map]
theorem pls_at {l : List HeldV} {j : Nat} (hj : j < l.length) : (pls l)[j]'(by rw [pls_len]; exact hj) = HeldV.pl l[j] := by unfold pls; rw [List.getElem_map]
theorem pls_ext {a b : List HeldV} (hl : a.length = b.length) (h : ∀ j (h2 : j < a.length) (h3 : j < b.length), HeldV.pl a[j] = HeldV.pl b[j]) : pls a = pls b :=
  List.ext_getElem (by rw [pls_len, pls_len]; exact hl) fun j h2 h3 => by
    rw [pls_len] at h2 h3
    exact (pls_at h2).trans ((h j h2 h3).trans (pls_at h3).symm)
theorem plss_ext {a b : List (Sl HeldV)} (hl : a.length = b.length) (h : ∀ j (h2 : j < a.length) (h3 : j < b.length), pls a[j].l = pls b[j].l) : plss a = plss b :=
  List.ext_getElem (by rw [plss_len, plss_len]; exact hl) fun j h2 h3 => by
    rw [plss_len] at h2 h3
    exact (plss_at h2).trans ((h j h2 h3).trans (plss_at h3).symm)
/-- Are stores a circle's? -/
def CircSt (l : List PeerV) (r : Int) (all : List (List Hd)) : Prop := IsCircle l ∧ (1 ≤ r ∧ r ≤ 8) ∧ all.length = l.length ∧ ∀ s ∈ all, IsSt s
instance (l : List PeerV) (r : Int) (all : List (List Hd)) : Decidable (CircSt l r all) := by unfold CircSt; exact inferInstance
/-- Has a peer to keep a key? -/
def keepsR (l : List PeerV) (r i : Int) (key : Plc) : Bool := decide (i ∈ (copiesR l key r).1)
def healR (l : List PeerV) (r : Int) (all : List (List Hd)) : List (List Hd) × Int :=
  if CircSt l r all then
    if 2000 < (ofS mergedT all).length then ([], 12)
    else ((List.range l.length).map fun i : Nat => (ofS mergedT all).filter fun h => keepsR l r (i : Int) h.key, 0)
  else ([], 1)
/-- Is each cell kept by just those that have to? -/
def WholeOk (l : List PeerV) (r : Int) (all : List (List Hd)) : Prop := ∀ s ∈ all, ∀ h ∈ s, ∀ n (hn : n < all.length), (findS all[n] h.key).isSome = keepsR l r (n : Int) h.key ∧ ∀ c, findS all[n] h.key = some c → c = h.cell
instance (l : List PeerV) (r : Int) (all : List (List Hd)) : Decidable (WholeOk l r all) := by unfold WholeOk; exact inferInstance
def wholeR (l : List PeerV) (r : Int) (all : List (List Hd)) : Prop := CircSt l r all ∧ WholeOk l r all
instance (l : List PeerV) (r : Int) (all : List (List Hd)) : Decidable (wholeR l r all) := by unfold wholeR; exact inferInstance
/-- Stores handed back, and an error. -/
def AllE (M : Mem) (v : Value) (r : List (List Hd) × Int) : Prop := ∃ s : Sl (Sl HeldV), v = .tuple #[s.val, .int .i64 r.2] ∧ plss s.l = r.1 ∧ SlK M (fun x => [.one (Sl.val x)]) 1 s ∧ ∀ y ∈ s.l, SlK M HeldV.segs 24 y ∧ ∀ h ∈ y.l, HeldV.ok M h
theorem AllE.nil {M : Mem} {e : Int} : AllE M (.tuple #[.slice none 0 0, .int .i64 e]) ([], e) := ⟨⟨none, 0, []⟩, rfl, rfl, SlK.nil, fun h hh => by cases hh⟩
theorem Al_any {α : Type} {l : List α} {p : α → Bool} : (l.any p = true) ↔ ∃ x ∈ l, p x = true := List.any_eq_true
end Go.Esp
/-
  The same stores; what is large.
-/
set_option linter.unusedSimpArgs false
set_option linter.unusedVariables false
set_option linter.unnecessarySimpa false
set_option maxRecDepth 8000
set_option maxHeartbeats 1000000
namespace Go.Proofs.Ytbafnjniijodfaa
open Go.Esp
theorem F.ok15 : okFn Try.prog 15 = true := by kernel_rfl
theorem F.ok16 : okFn Try.prog 16 = true := by kernel_rfl
theorem F.ok25 : okFn Try.prog 25 = true := by kernel_rfl
theorem F.ok26 : okFn Try.prog 26 = true := by kernel_rfl

theorem hdmk {x y : HeldV} (h1 : x.key = y.key) (h2 : x.cell.pl = y.cell.pl) : HeldV.pl x = HeldV.pl y := by unfold HeldV.pl; rw [h1, h2]

theorem SameS_ok (M : Mem) (a : (Sl HeldV)) (b : (Sl HeldV)) (ha0 : SlK M HeldV.segs 24 a) (ha1 : ∀ y ∈ (a).l, HeldV.ok M y) (hb2 : SlK M HeldV.segs 24 b) (hb3 : ∀ y ∈ (b).l, HeldV.ok M y) : Fs Try.prog 26 [Sl.val a, Sl.val b] M (fun v => v = Value.bool (decide (pls a.l = pls b.l))) := by
  obtain ⟨a_a, a_c, a_l⟩ := a
  obtain ⟨b_a, b_c, b_l⟩ := b
  have k_a : SlK M HeldV.segs 24 ⟨a_a, a_c, a_l⟩ := ha0
  have s_a : SlM M a_a (a_l.map HeldV.segs) 24 := k_a.h1
  have n_a : (a_l.map HeldV.segs).length = a_l.length := List.length_map ..
  have m_a : a_l.length ≤ 9223372036854775807 := k_a.h2
  have c_a : a_l.length ≤ a_c := k_a.h3
  have l_a : ∀ y ∈ a_l, HeldV.ok M y := ha1
  have k_b : SlK M HeldV.segs 24 ⟨b_a, b_c, b_l⟩ := hb2
  have s_b : SlM M b_a (b_l.map HeldV.segs) 24 := k_b.h1
  have n_b : (b_l.map HeldV.segs).length = b_l.length := List.length_map ..
  have m_b : b_l.length ≤ 9223372036854775807 := k_b.h2
  have c_b : b_l.length ≤ b_c := k_b.h3
  have l_b : ∀ y ∈ b_l, HeldV.ok M y := hb3
  refine fs_enter Try.func26 rfl Try.ntmps26 rfl ?_; intro H
  refine C_seq ?_
  refine C_region (l := [0]) rfl ?_
  refine Y_assign ?_
  refine XD_end ?_
  refine K_then ?_
  iterate 2 refine C_seq ?_
  refine C_region (l := [0, 1, 2, 3, 4]) rfl ?_
  refine Y_move ?_
  refine Y_len_sl F.elem31 ?_
  refine Y_move ?_
  refine Y_len_sl F.elem31 ?_
  refine Y_cmp ?_
  refine XD_end ?_
  refine K_then ?_
  refine Y_pk [10, 4, 0, 1] ?_
  refine C_cond rfl (fun hc1 => ?_) (fun hc1 => ?_)
  ·replace hc1 := nT hc1
   refine C_seq ?_
   refine C_region (l := [0]) rfl ?_
   refine Y_assign ?_
   refine XD_end ?_
   refine K_then ?_
   refine Y_pk [4, 0, 1] ?_
   refine C_ret ?_
   refine K_ret ?_
   refine K_end (.inr rfl) (.tmp rfl .nil) (fun w hw => ?_)
   refine ⟨_, rfl, (hw.c), ?_⟩
   clear hw
   show _ = Value.bool (decide (pls a_l = pls b_l))
   exact congrArg Value.bool (decide_eq_false (fun h9 => by have h8 := congrArg List.length h9; rw [pls_len, pls_len] at h8; omega)).symm
  ·replace hc1 := nF hc1
   refine C_skip ?_
   refine K_then ?_
   refine Y_pk [4, 0, 1] ?_
   iterate 2 refine C_seq ?_
   refine C_region (l := [0]) rfl ?_
   refine Y_assign ?_
   refine XD_end ?_
   refine K_then ?_
   refine C_block ?_
   refine Y_pk [5, 4, 0, 1] ?_
   refine C_loopS (.succ .zero) (fun (k : Nat) z => z = [(5, .int .i64 (k : Int))] ∧ k ≤ a_l.length ∧ (∀ j (h2 : j < a_l.length) (h3 : j < b_l.length), j < k → HeldV.pl a_l[j] = HeldV.pl b_l[j])) (fun k => a_l.length - k) (0) (⟨rfl, by omega, by (intro j h2 h3 hj; omega)⟩) ?_
   rintro k _ ⟨rfl, hk, hI⟩
   iterate 2 refine C_seq ?_
   refine C_region (l := [0, 1, 2, 3]) rfl ?_
   iterate 2 refine Y_move ?_
   refine Y_len_sl F.elem31 ?_
   refine Y_cmp ?_
   refine XD_end ?_
   refine K_then ?_
   refine C_cond rfl (fun hc2 => ?_) (fun hc2 => ?_)
   ·replace hc2 := dT hc2
    refine C_skip ?_
    refine K_then ?_
    refine C_seq ?_
    refine C_block ?_
    refine C_seq ?_
    refine C_region_any (l := [0, 1, 2, 3, 4, 5, 6, 7, 8, 9, 10, 11, 12, 13, 14, 15, 16, 17, 18, 19, 20, 21, 22, 23, 24]) #[0, 0, 3, 7, 15, 0, 0, 96, 224, 480, 1023, 2047, 4095, 4095, 16383, 32767, 65535, 4095, 4095, 397311, 921599, 1970175, 4194303, 8388607, 16777215] _ rfl (by kernel_rfl) (by kernel_rfl) St.drawn (fun _ h => h) ?_
    iterate 2 refine Y_move ?_
    refine X_indexAddr rfl rfl rfl rfl F.elem31 (by rfl) (by omega) (by exact SlM.plain (by assumption) (by (simp; omega))) rfl ?_
    refine X_fieldAddr_el rfl rfl rfl (by exact SlM.plain (by assumption) (by (simp; omega))) F.foff49_0 rfl ?_
    refine X_load_el rfl rfl rfl (by assumption) (by exact row_map (by omega)) F.lay33 rfl rfl rfl ?_
    iterate 2 refine Y_move ?_
    refine X_indexAddr rfl rfl rfl rfl F.elem31 (by rfl) (by omega) (by exact SlM.plain (by assumption) (by (simp; omega))) rfl ?_
    refine X_fieldAddr_el rfl rfl rfl (by exact SlM.plain (by assumption) (by (simp; omega))) F.foff49_0 rfl ?_
    refine X_load_el rfl rfl rfl (by assumption) (by exact row_map (by omega)) F.lay33 rfl rfl rfl ?_
    refine X_same (m := 20) rfl rfl rfl rfl rfl (by constructor) (by constructor) F.lay33 F.kinds33 rfl F.guard33 (fit_id fit_nil) (fit_id fit_nil) rfl rfl rfl ?_; intro c3 he4
    replace he4 : c3 = true ↔ ¬ (Segs.cells _ = Segs.cells _) := he4
    obtain rfl := neD he4 (cells_id1 (x := _) (y := _)); clear he4
    refine Y_move ?_
    refine XD_part 28 rfl (fun hc5 => ?_) (fun hc5 => ?_)
    ·replace hc5 := nT hc5
     simp only [List.get_eq_getElem] at hc5
     iterate 12 refine Y_skip ?_
     refine Y_pick ?_
     refine XD_end ?_
     refine K_then ?_
     refine C_true rfl ?_
     refine C_seq ?_
     refine C_region (l := [0]) rfl ?_
     refine Y_assign ?_
     refine XD_end ?_
     refine K_then ?_
     refine C_ret ?_
     refine K_retB ?_
     iterate 2 refine K_ret ?_
     refine K_retB ?_
     refine K_ret ?_
     refine K_end (.inr rfl) (.tmp rfl .nil) (fun w hw => ?_)
     refine ⟨_, rfl, (hw.c), ?_⟩
     clear hw
     show _ = Value.bool (decide (pls a_l = pls b_l))
     refine congrArg Value.bool (decide_eq_false (fun h9 => ?_)).symm
     have h8 : HeldV.pl a_l[k] = HeldV.pl b_l[k] := by
      have e1 : (pls a_l)[k]? = some (HeldV.pl a_l[k]) := by simp [pls, show k < a_l.length by omega]
      have e2 : (pls b_l)[k]? = some (HeldV.pl b_l[k]) := by simp [pls, show k < b_l.length by omega]
      rw [h9, e2] at e1; exact (Option.some.inj e1).symm
     have h7 := congrArg Hd.key h8
     have h6 := congrArg Hd.cell h8
     simp only [HeldV.pl] at h7 h6
     contradiction
    ·replace hc5 := nF hc5
     simp only [List.get_eq_getElem] at hc5
     iterate 2 refine Y_move ?_
     refine X_indexAddr rfl rfl rfl rfl F.elem31 (by rfl) (by omega) (by exact SlM.plain (by assumption) (by (simp; omega))) rfl ?_
     refine X_fieldAddr_el rfl rfl rfl (by exact SlM.plain (by assumption) (by (simp; omega))) F.foff49_1 rfl ?_
     refine X_load_el rfl rfl rfl (by assumption) (by exact row_map (by omega)) F.lay37 rfl rfl rfl ?_
     iterate 2 refine Y_move ?_
     refine X_indexAddr rfl rfl rfl rfl F.elem31 (by rfl) (by omega) (by exact SlM.plain (by assumption) (by (simp; omega))) rfl ?_
     refine X_fieldAddr_el rfl rfl rfl (by exact SlM.plain (by assumption) (by (simp; omega))) F.foff49_1 rfl ?_
     refine X_load_el rfl rfl rfl (by assumption) (by exact row_map (by omega)) F.lay37 rfl rfl rfl ?_
     refine X_fs rfl rfl F.ok25 rfl (SameC_ok _ a_l[k].cell b_l[k].cell (l_a _ (List.getElem_mem (by omega))).h0 (l_b _ (List.getElem_mem (by omega))).h0) rfl ?_
     rintro _ rfl
     refine Y_not ?_
     refine Y_pick ?_
     refine XD_end ?_
     refine K_then ?_
     refine C_cond rfl (fun hc6 => ?_) (fun hc6 => ?_)
     ·replace hc6 := nT hc6
      refine C_seq ?_
      refine C_region (l := [0]) rfl ?_
      refine Y_assign ?_
      refine XD_end ?_
      refine K_then ?_
      refine C_ret ?_
      refine K_retB ?_
      iterate 2 refine K_ret ?_
      refine K_retB ?_
      refine K_ret ?_
      refine K_end (.inr rfl) (.tmp rfl .nil) (fun w hw => ?_)
      refine ⟨_, rfl, (hw.c), ?_⟩
      clear hw
      show _ = Value.bool (decide (pls a_l = pls b_l))
      refine congrArg Value.bool (decide_eq_false (fun h9 => ?_)).symm
      have h8 : HeldV.pl a_l[k] = HeldV.pl b_l[k] := by
       have e1 : (pls a_l)[k]? = some (HeldV.pl a_l[k]) := by simp [pls, show k < a_l.length by omega]
       have e2 : (pls b_l)[k]? = some (HeldV.pl b_l[k]) := by simp [pls, show k < b_l.length by omega]
       rw [h9, e2] at e1; exact (Option.some.inj e1).symm
      have h7 := congrArg Hd.key h8
      have h6 := congrArg Hd.cell h8
      simp only [HeldV.pl] at h7 h6
      contradiction
     ·replace hc6 := nF hc6
      refine C_skip ?_
      refine K_out ?_
      refine K_then ?_
      refine C_region (l := [0, 1, 2]) rfl ?_
      refine Y_move ?_
      refine X_ari rfl rfl rfl rfl rfl (by exact wrap_in (by decide) (by omega)) rfl ?_
      refine Y_assign ?_
      refine XD_end ?_
      refine K_roundS (a' := [(5, _)]) (k + 1) (.cons (k := 5) rfl (.cons (k := 4) rfl (.cons (k := 0) rfl (.cons (k := 1) rfl (.nil))))) (fun w hw => by first | exact hw | exact hw.c) ?_ ?_
      ·refine ⟨rfl, by omega, ?_⟩
       (intro j h2 h3 hj; rcases Nat.lt_or_ge j k with h9 | h9; exact hI j h2 h3 h9; have hjk : j = k := (by omega); subst hjk; exact hdmk (by assumption) (by assumption))
      ·omega
   ·replace hc2 := dF hc2
    refine C_exit ?_
    iterate 2 refine K_exit ?_
    refine K_hit ?_
    refine K_then ?_
    refine Y_pk [4] ?_
    refine C_seq ?_
    refine C_region (l := [0]) rfl ?_
    refine Y_assign ?_
    refine XD_end ?_
    refine K_then ?_
    refine C_ret ?_
    refine K_end (.inr rfl) (.tmp rfl .nil) (fun w hw => ?_)
    refine ⟨_, rfl, (hw.c), ?_⟩
    clear hw
    show _ = Value.bool (decide (pls a_l = pls b_l))
    exact congrArg Value.bool (decide_eq_true (pls_ext (by omega) (fun j h2 h3 => hI j h2 h3 (by omega)))).symm

theorem All_ok (M : Mem) (a : (Sl (Sl HeldV))) (b : (Sl (Sl HeldV))) (ha0 : SlK M (fun x => [Seg.one (Sl.val x)]) 1 a) (ha1 : ∀ y ∈ (a).l, SlK M HeldV.segs 24 y ∧ ∀ y1 ∈ (y).l, HeldV.ok M y1) (hb2 : SlK M (fun x => [Seg.one (Sl.val x)]) 1 b) (hb3 : ∀ y ∈ (b).l, SlK M HeldV.segs 24 y ∧ ∀ y1 ∈ (y).l, HeldV.ok M y1) : Fs Try.prog 12 [Sl.val a, Sl.val b] M (fun v => v = Value.bool (decide (plss a.l = plss b.l))) := by
  obtain ⟨a_a, a_c, a_l⟩ := a
  obtain ⟨b_a, b_c, b_l⟩ := b
  have k_a : SlK M (fun x => [Seg.one (Sl.val x)]) 1 ⟨a_a, a_c, a_l⟩ := ha0
  have s_a : SlM M a_a (a_l.map (fun x => [Seg.one (Sl.val x)])) 1 := k_a.h1
  have n_a : (a_l.map (fun x => [Seg.one (Sl.val x)])).length = a_l.length := List.length_map ..
  have m_a : a_l.length ≤ 9223372036854775807 := k_a.h2
  have c_a : a_l.length ≤ a_c := k_a.h3
  have k_b : SlK M (fun x => [Seg.one (Sl.val x)]) 1 ⟨b_a, b_c, b_l⟩ := hb2
  have s_b : SlM M b_a (b_l.map (fun x => [Seg.one (Sl.val x)])) 1 := k_b.h1
  have n_b : (b_l.map (fun x => [Seg.one (Sl.val x)])).length = b_l.length := List.length_map ..
  have m_b : b_l.length ≤ 9223372036854775807 := k_b.h2
  have c_b : b_l.length ≤ b_c := k_b.h3
  refine fs_enter Try.func12 rfl Try.ntmps12 rfl ?_; intro H
  refine C_seq ?_
  refine C_region (l := [0]) rfl ?_
  refine Y_assign ?_
  refine XD_end ?_
  refine K_then ?_
  iterate 2 refine C_seq ?_
  refine C_region (l := [0, 1, 2, 3, 4]) rfl ?_
  refine Y_move ?_
  refine Y_len_sl F.elem23 ?_
  refine Y_move ?_
  refine Y_len_sl F.elem23 ?_
  refine Y_cmp ?_
  refine XD_end ?_
  refine K_then ?_
  refine Y_pk [10, 4, 0, 1] ?_
  refine C_cond rfl (fun hc1 => ?_) (fun hc1 => ?_)
  ·replace hc1 := nT hc1
   refine C_seq ?_
   refine C_region (l := [0]) rfl ?_
   refine Y_assign ?_
   refine XD_end ?_
   refine K_then ?_
   refine Y_pk [4, 0, 1] ?_
   refine C_ret ?_
   refine K_ret ?_
   refine K_end (.inr rfl) (.tmp rfl .nil) (fun w hw => ?_)
   refine ⟨_, rfl, (hw.c), ?_⟩
   clear hw
   show _ = Value.bool (decide (plss a_l = plss b_l))
   exact congrArg Value.bool (decide_eq_false (fun h9 => by have h8 := congrArg List.length h9; rw [plss_len, plss_len] at h8; omega)).symm
  ·replace hc1 := nF hc1
   refine C_skip ?_
   refine K_then ?_
   refine Y_pk [4, 0, 1] ?_
   iterate 2 refine C_seq ?_
   refine C_region (l := [0]) rfl ?_
   refine Y_assign ?_
   refine XD_end ?_
   refine K_then ?_
   refine C_block ?_
   refine Y_pk [5, 4, 0, 1] ?_
   refine C_loopS (.succ .zero) (fun (k : Nat) z => z = [(5, .int .i64 (k : Int))] ∧ k ≤ a_l.length ∧ (∀ j (h2 : j < a_l.length) (h3 : j < b_l.length), j < k → pls a_l[j].l = pls b_l[j].l)) (fun k => a_l.length - k) (0) (⟨rfl, by omega, by (intro j h2 h3 hj; omega)⟩) ?_
   rintro k _ ⟨rfl, hk, hI⟩
   iterate 2 refine C_seq ?_
   refine C_region (l := [0, 1, 2, 3]) rfl ?_
   iterate 2 refine Y_move ?_
   refine Y_len_sl F.elem23 ?_
   refine Y_cmp ?_
   refine XD_end ?_
   refine K_then ?_
   refine C_cond rfl (fun hc2 => ?_) (fun hc2 => ?_)
   ·replace hc2 := dT hc2
    refine C_skip ?_
    refine K_then ?_
    refine C_seq ?_
    refine C_block ?_
    refine C_seq ?_
    refine C_region_any (l := [0, 1, 2, 3, 4, 5, 6, 7, 8, 9]) #[0, 0, 3, 7, 0, 0, 48, 112, 255, 511] _ rfl (by kernel_rfl) (by kernel_rfl) St.drawn (fun _ h => h) ?_
    iterate 2 refine Y_move ?_
    refine X_indexAddr rfl rfl rfl rfl F.elem23 (by rfl) (by omega) (by exact SlM.plain (by assumption) (by (simp; omega))) rfl ?_
    refine X_load_el rfl rfl rfl (by assumption) (by exact row_map (by omega)) F.lay31 rfl rfl rfl ?_
    iterate 2 refine Y_move ?_
    refine X_indexAddr rfl rfl rfl rfl F.elem23 (by rfl) (by omega) (by exact SlM.plain (by assumption) (by (simp; omega))) rfl ?_
    refine X_load_el rfl rfl rfl (by assumption) (by exact row_map (by omega)) F.lay31 rfl rfl rfl ?_
    refine X_fs rfl rfl F.ok26 rfl (SameS_ok _ a_l[k] b_l[k] (ha1 _ (List.getElem_mem (n := k) (show k < a_l.length by omega))).1 (ha1 _ (List.getElem_mem (n := k) (show k < a_l.length by omega))).2 (hb3 _ (List.getElem_mem (n := k) (show k < b_l.length by omega))).1 (hb3 _ (List.getElem_mem (n := k) (show k < b_l.length by omega))).2) rfl ?_
    rintro _ rfl
    refine Y_not ?_
    refine XD_end ?_
    refine K_then ?_
    refine C_cond rfl (fun hc3 => ?_) (fun hc3 => ?_)
    ·replace hc3 := nT hc3
     refine C_seq ?_
     refine C_region (l := [0]) rfl ?_
     refine Y_assign ?_
     refine XD_end ?_
     refine K_then ?_
     refine C_ret ?_
     refine K_retB ?_
     iterate 2 refine K_ret ?_
     refine K_retB ?_
     refine K_ret ?_
     refine K_end (.inr rfl) (.tmp rfl .nil) (fun w hw => ?_)
     refine ⟨_, rfl, (hw.c), ?_⟩
     clear hw
     show _ = Value.bool (decide (plss a_l = plss b_l))
     refine congrArg Value.bool (decide_eq_false (fun h9 => ?_)).symm
     have h8 : pls a_l[k].l = pls b_l[k].l := by
      have e1 : (plss a_l)[k]? = some (pls a_l[k].l) := by simp [plss, show k < a_l.length by omega]
      have e2 : (plss b_l)[k]? = some (pls b_l[k].l) := by simp [plss, show k < b_l.length by omega]
      rw [h9, e2] at e1; exact (Option.some.inj e1).symm
     contradiction
    ·replace hc3 := nF hc3
     refine C_skip ?_
     refine K_out ?_
     refine K_then ?_
     refine C_region (l := [0, 1, 2]) rfl ?_
     refine Y_move ?_
     refine X_ari rfl rfl rfl rfl rfl (by exact wrap_in (by decide) (by omega)) rfl ?_
     refine Y_assign ?_
     refine XD_end ?_
     refine K_roundS (a' := [(5, _)]) (k + 1) (.cons (k := 5) rfl (.cons (k := 4) rfl (.cons (k := 0) rfl (.cons (k := 1) rfl (.nil))))) (fun w hw => by first | exact hw | exact hw.c) ?_ ?_
     ·refine ⟨rfl, by omega, ?_⟩
      (intro j h2 h3 hj; rcases Nat.lt_or_ge j k with h9 | h9; exact hI j h2 h3 h9; have hjk : j = k := (by omega); subst hjk; first | assumption | (simp_all; done))
     ·omega
   ·replace hc2 := dF hc2
    refine C_exit ?_
    iterate 2 refine K_exit ?_
    refine K_hit ?_
    refine K_then ?_
    refine Y_pk [4] ?_
    refine C_seq ?_
    refine C_region (l := [0]) rfl ?_
    refine Y_assign ?_
    refine XD_end ?_
    refine K_then ?_
    refine C_ret ?_
    refine K_end (.inr rfl) (.tmp rfl .nil) (fun w hw => ?_)
    refine ⟨_, rfl, (hw.c), ?_⟩
    clear hw
    show _ = Value.bool (decide (plss a_l = plss b_l))
    exact congrArg Value.bool (decide_eq_true (plss_ext (by omega) (fun j h2 h3 => hI j h2 h3 (by omega)))).symm

theorem Big17_ok (M : Mem) (c : CellV) (hc0 : CellV.ok M c) : Fs Try.prog 16 [c.enc] M (fun v => ∃ b : Bool, v = .bool b) := by
  obtain ⟨c_version, c_has, c_val, ⟨c_marks_a, c_marks_c, c_marks_l⟩⟩ := c
  have k_c_marks : SlK M MarkV.segs 6 ⟨c_marks_a, c_marks_c, c_marks_l⟩ := hc0.h0
  have s_c_marks : SlM M c_marks_a (c_marks_l.map MarkV.segs) 6 := k_c_marks.h1
  have n_c_marks : (c_marks_l.map MarkV.segs).length = c_marks_l.length := List.length_map ..
  have m_c_marks : c_marks_l.length ≤ 9223372036854775807 := k_c_marks.h2
  have c_c_marks : c_marks_l.length ≤ c_marks_c := k_c_marks.h3
  refine fs_enter Try.func16 rfl Try.ntmps16 rfl ?_; intro H
  refine C_seq ?_
  refine C_region (l := [0, 1]) rfl ?_
  refine Y_box ?_; intro b1
  refine Y_assign ?_
  refine XD_end ?_
  refine K_then ?_
  refine Y_pk [2, 1] ?_
  refine C_seq ?_
  refine C_region (l := [0, 1, 2, 3]) rfl ?_
  refine Y_fieldAddr F.foff37_2 ?_
  refine Y_load F.lay9 ?_
  refine Y_len_str Try.underlying9 ?_
  refine Y_assign ?_
  refine XD_end ?_
  refine K_then ?_
  refine Y_pk [3, 2, 1] ?_
  iterate 2 refine C_seq ?_
  refine C_region (l := [0]) rfl ?_
  refine Y_assign ?_
  refine XD_end ?_
  refine K_then ?_
  refine C_block ?_
  refine Y_pk [4, 3, 2, 1] ?_
  refine C_loopS (.succ (.succ .zero)) (fun (k : Nat) z => ∃ (n3 : Int), z = [(4, .int .i64 (k : Int)), (3, .int .i64 n3)] ∧ k ≤ c_marks_l.length) (fun k => c_marks_l.length - k) (0) (⟨_, rfl, by omega⟩) ?_
  rintro k _ ⟨n3, rfl, hk⟩
  iterate 2 refine C_seq ?_
  refine C_region (l := [0, 1, 2, 3, 4, 5, 6, 7, 8, 9, 10]) rfl ?_
  refine Y_move ?_
  refine Y_fieldAddr F.foff37_3 ?_
  refine Y_load F.lay35 ?_
  refine Y_len_sl F.elem35 ?_
  refine Y_cmp ?_
  refine Y_move ?_
  refine XD_part 13 rfl (fun hc2 => ?_) (fun hc2 => ?_)
  ·replace hc2 := dT hc2
   refine Y_fieldAddr F.foff37_3 ?_
   refine Y_load F.lay35 ?_
   refine Y_len_sl F.elem35 ?_
   refine Y_cmp ?_
   refine Y_pick ?_
   refine XD_end ?_
   refine K_then ?_
   refine C_cond rfl (fun hc3 => ?_) (fun hc3 => ?_)
   ·replace hc3 := dT hc3
    refine C_skip ?_
    refine K_then ?_
    refine C_seq ?_
    refine C_block ?_
    refine C_region (l := [0, 1, 2, 3, 4, 5, 6, 7, 8, 9, 10]) rfl ?_
    refine Y_move ?_
    refine Y_fieldAddr F.foff37_3 ?_
    refine Y_load F.lay35 ?_
    refine Y_move ?_
    refine X_indexAddr rfl rfl rfl rfl F.elem35 (by rfl) (by omega) (by exact SlM.plain (by assumption) (by (simp; omega))) rfl ?_
    refine X_fieldAddr_el rfl rfl rfl (by exact SlM.plain (by assumption) (by (simp; omega))) F.foff70_2 rfl ?_
    refine X_fieldAddr_el rfl rfl rfl (by exact SlM.plain (by assumption) (by (simp; omega))) F.foff68_3 rfl ?_
    refine X_load_el rfl rfl rfl (by assumption) (by exact row_map (by omega)) F.lay9 rfl rfl rfl ?_
    refine Y_len_str Try.underlying9 ?_
    refine X_ari rfl rfl rfl rfl rfl (by exact rfl) rfl ?_
    refine Y_assign ?_
    refine XD_end ?_
    refine K_out ?_
    refine K_then ?_
    refine C_region (l := [0, 1, 2]) rfl ?_
    refine Y_move ?_
    refine X_ari rfl rfl rfl rfl rfl (by exact wrap_in (by decide) (by omega)) rfl ?_
    refine Y_assign ?_
    refine XD_end ?_
    refine K_roundS (a' := [(4, _), (3, _)]) (k + 1) (.cons (k := 4) rfl (.cons (k := 3) rfl (.cons (k := 2) rfl (.cons (k := 1) rfl (.nil))))) (fun w hw => by first | exact hw | exact hw.c) ?_ ?_
    ·exact ⟨_, rfl, by omega⟩
    ·omega
   ·replace hc3 := dF hc3
    refine C_exit ?_
    iterate 2 refine K_exit ?_
    refine K_hit ?_
    refine K_then ?_
    refine Y_pk [3, 2, 1] ?_
    refine C_seq ?_
    refine C_region (l := [0, 1, 2, 3, 4, 5, 6, 7, 8]) rfl ?_
    refine Y_fieldAddr F.foff37_3 ?_
    refine Y_load F.lay35 ?_
    refine Y_len_sl F.elem35 ?_
    refine Y_cmp ?_
    refine Y_move ?_
    refine XD_part 35 rfl (fun hc4 => ?_) (fun hc4 => ?_)
    ·replace hc4 := dT hc4
     iterate 2 refine Y_skip ?_
     refine Y_pick ?_
     refine Y_assign ?_
     refine XD_end ?_
     refine K_then ?_
     refine Y_pk [2] ?_
     refine C_ret ?_
     refine K_end (.inr rfl) (.tmp rfl .nil) (fun w hw => ?_)
     exact ⟨_, rfl, hw.c, _, rfl⟩
    ·replace hc4 := dF hc4
     (exfalso; omega)
  ·replace hc2 := dF hc2
   iterate 4 refine Y_skip ?_
   refine Y_pick ?_
   refine XD_end ?_
   refine K_then ?_
   refine C_false rfl ?_
   refine C_exit ?_
   iterate 2 refine K_exit ?_
   refine K_hit ?_
   refine K_then ?_
   refine Y_pk [3, 2, 1] ?_
   refine C_seq ?_
   refine C_region (l := [0, 1, 2, 3, 4, 5, 6, 7, 8]) rfl ?_
   refine Y_fieldAddr F.foff37_3 ?_
   refine Y_load F.lay35 ?_
   refine Y_len_sl F.elem35 ?_
   refine Y_cmp ?_
   refine Y_move ?_
   refine XD_part 35 rfl (fun hc5 => ?_) (fun hc5 => ?_)
   ·replace hc5 := dT hc5
    iterate 2 refine Y_skip ?_
    refine Y_pick ?_
    refine Y_assign ?_
    refine XD_end ?_
    refine K_then ?_
    refine Y_pk [2] ?_
    refine C_ret ?_
    refine K_end (.inr rfl) (.tmp rfl .nil) (fun w hw => ?_)
    exact ⟨_, rfl, hw.c, _, rfl⟩
   ·replace hc5 := dF hc5
    refine Y_move ?_
    refine Y_cmp ?_
    refine Y_pick ?_
    refine Y_assign ?_
    refine XD_end ?_
    refine K_then ?_
    refine Y_pk [2] ?_
    refine C_ret ?_
    refine K_end (.inr rfl) (.tmp rfl .nil) (fun w hw => ?_)
    exact ⟨_, rfl, hw.c, _, rfl⟩

theorem BigS_ok (M : Mem) (s : (Sl HeldV)) (hs0 : SlK M HeldV.segs 24 s) (hs1 : ∀ y ∈ (s).l, HeldV.ok M y) : Fs Try.prog 15 [Sl.val s] M (fun v => ∃ b : Bool, v = .bool b) := by
  obtain ⟨s_a, s_c, s_l⟩ := s
  have k_s : SlK M HeldV.segs 24 ⟨s_a, s_c, s_l⟩ := hs0
  have s_s : SlM M s_a (s_l.map HeldV.segs) 24 := k_s.h1
  have n_s : (s_l.map HeldV.segs).length = s_l.length := List.length_map ..
  have m_s : s_l.length ≤ 9223372036854775807 := k_s.h2
  have c_s : s_l.length ≤ s_c := k_s.h3
  have l_s : ∀ y ∈ s_l, HeldV.ok M y := hs1
  refine fs_enter Try.func15 rfl Try.ntmps15 rfl ?_; intro H
  refine C_seq ?_
  refine C_region (l := [0]) rfl ?_
  refine Y_assign ?_
  refine XD_end ?_
  refine K_then ?_
  iterate 2 refine C_seq ?_
  refine C_region (l := [0]) rfl ?_
  refine Y_assign ?_
  refine XD_end ?_
  refine K_then ?_
  refine C_block ?_
  refine Y_pk [3, 2, 0] ?_
  refine C_loopS (.succ .zero) (fun (k : Nat) z => ∃ (_ : Unit), z = [(3, .int .i64 (k : Int))] ∧ k ≤ s_l.length) (fun k => s_l.length - k) (0) (⟨(), rfl, by omega⟩) ?_
  rintro k _ ⟨_, rfl, hk⟩
  iterate 2 refine C_seq ?_
  refine C_region (l := [0, 1, 2, 3, 4, 5, 6, 7, 8]) rfl ?_
  iterate 2 refine Y_move ?_
  refine Y_len_sl F.elem31 ?_
  refine Y_cmp ?_
  refine Y_move ?_
  refine XD_part 8 rfl (fun hc1 => ?_) (fun hc1 => ?_)
  ·replace hc1 := dT hc1
   refine Y_move ?_
   refine Y_len_sl F.elem31 ?_
   refine Y_cmp ?_
   refine Y_pick ?_
   refine XD_end ?_
   refine K_then ?_
   refine C_cond rfl (fun hc2 => ?_) (fun hc2 => ?_)
   ·replace hc2 := dT hc2
    refine C_skip ?_
    refine K_then ?_
    refine C_seq ?_
    refine C_block ?_
    refine C_seq ?_
    refine C_region (l := [0, 1, 2, 3, 4, 5]) rfl ?_
    iterate 2 refine Y_move ?_
    refine X_indexAddr rfl rfl rfl rfl F.elem31 (by rfl) (by omega) (by exact SlM.plain (by assumption) (by (simp; omega))) rfl ?_
    refine X_fieldAddr_el rfl rfl rfl (by exact SlM.plain (by assumption) (by (simp; omega))) F.foff49_1 rfl ?_
    refine X_load_el rfl rfl rfl (by assumption) (by exact row_map (by omega)) F.lay37 rfl rfl rfl ?_
    refine X_fs rfl rfl F.ok16 rfl (Big17_ok _ s_l[k].cell (l_s _ (List.getElem_mem (by omega))).h0) rfl ?_
    rintro _ ⟨bb, rfl⟩
    refine XD_end ?_
    refine K_then ?_
    refine C_cond rfl (fun hc3 => ?_) (fun hc3 => ?_)
    ·skip
     refine C_seq ?_
     refine C_region (l := [0]) rfl ?_
     refine Y_assign ?_
     refine XD_end ?_
     refine K_then ?_
     refine C_ret ?_
     refine K_retB ?_
     iterate 2 refine K_ret ?_
     refine K_retB ?_
     refine K_ret ?_
     refine K_end (.inr rfl) (.tmp rfl .nil) (fun w hw => ?_)
     exact ⟨_, rfl, hw.c, _, rfl⟩
    ·skip
     refine C_skip ?_
     refine K_out ?_
     refine K_then ?_
     refine C_region (l := [0, 1, 2]) rfl ?_
     refine Y_move ?_
     refine X_ari rfl rfl rfl rfl rfl (by exact wrap_in (by decide) (by omega)) rfl ?_
     refine Y_assign ?_
     refine XD_end ?_
     refine K_roundS (a' := [(3, _)]) (k + 1) (.cons (k := 3) rfl (.cons (k := 2) rfl (.cons (k := 0) rfl (.nil)))) (fun w hw => by first | exact hw | exact hw.c) ?_ ?_
     ·exact ⟨(), rfl, by omega⟩
     ·omega
   ·replace hc2 := dF hc2
    refine C_exit ?_
    iterate 2 refine K_exit ?_
    refine K_hit ?_
    refine K_then ?_
    refine Y_pk [2, 0] ?_
    refine C_seq ?_
    refine C_region (l := [0, 1, 2, 3]) rfl ?_
    refine Y_move ?_
    refine Y_len_sl F.elem31 ?_
    refine Y_cmp ?_
    refine Y_assign ?_
    refine XD_end ?_
    refine K_then ?_
    refine Y_pk [2] ?_
    refine C_ret ?_
    refine K_end (.inr rfl) (.tmp rfl .nil) (fun w hw => ?_)
    exact ⟨_, rfl, hw.c, _, rfl⟩
  ·replace hc1 := dF hc1
   iterate 3 refine Y_skip ?_
   refine Y_pick ?_
   refine XD_end ?_
   refine K_then ?_
   refine C_false rfl ?_
   refine C_exit ?_
   iterate 2 refine K_exit ?_
   refine K_hit ?_
   refine K_then ?_
   refine Y_pk [2, 0] ?_
   refine C_seq ?_
   refine C_region (l := [0, 1, 2, 3]) rfl ?_
   refine Y_move ?_
   refine Y_len_sl F.elem31 ?_
   refine Y_cmp ?_
   refine Y_assign ?_
   refine XD_end ?_
   refine K_then ?_
   refine Y_pk [2] ?_
   refine C_ret ?_
   refine K_end (.inr rfl) (.tmp rfl .nil) (fun w hw => ?_)
   exact ⟨_, rfl, hw.c, _, rfl⟩

theorem Many_ok (M : Mem) (all : (Sl (Sl HeldV))) (hall0 : SlK M (fun x => [Seg.one (Sl.val x)]) 1 all) (hall1 : ∀ y ∈ (all).l, SlK M HeldV.segs 24 y ∧ ∀ y1 ∈ (y).l, HeldV.ok M y1) : Fs Try.prog 8 [Sl.val all] M (fun v => ∃ b : Bool, v = .bool b) := by
  obtain ⟨all_a, all_c, all_l⟩ := all
  have k_all : SlK M (fun x => [Seg.one (Sl.val x)]) 1 ⟨all_a, all_c, all_l⟩ := hall0
  have s_all : SlM M all_a (all_l.map (fun x => [Seg.one (Sl.val x)])) 1 := k_all.h1
  have n_all : (all_l.map (fun x => [Seg.one (Sl.val x)])).length = all_l.length := List.length_map ..
  have m_all : all_l.length ≤ 9223372036854775807 := k_all.h2
  have c_all : all_l.length ≤ all_c := k_all.h3
  refine fs_enter Try.func8 rfl Try.ntmps8 rfl ?_; intro H
  refine C_seq ?_
  refine C_region (l := [0]) rfl ?_
  refine Y_assign ?_
  refine XD_end ?_
  refine K_then ?_
  refine C_seq ?_
  refine C_region (l := [0]) rfl ?_
  refine Y_assign ?_
  refine XD_end ?_
  refine K_then ?_
  iterate 2 refine C_seq ?_
  refine C_region (l := [0]) rfl ?_
  refine Y_assign ?_
  refine XD_end ?_
  refine K_then ?_
  refine C_block ?_
  refine Y_pk [4, 3, 2, 0] ?_
  refine C_loopS (.succ (.succ .zero)) (fun (k : Nat) z => ∃ (n3 : Int), z = [(4, .int .i64 (k : Int)), (3, .int .i64 n3)] ∧ k ≤ all_l.length) (fun k => all_l.length - k) (0) (⟨_, rfl, by omega⟩) ?_
  rintro k _ ⟨n3, rfl, hk⟩
  iterate 2 refine C_seq ?_
  refine C_region (l := [0, 1, 2, 3, 4, 5, 6, 7, 8]) rfl ?_
  iterate 2 refine Y_move ?_
  refine Y_len_sl F.elem23 ?_
  refine Y_cmp ?_
  refine Y_move ?_
  refine XD_part 9 rfl (fun hc1 => ?_) (fun hc1 => ?_)
  ·replace hc1 := dT hc1
   refine Y_move ?_
   refine Y_len_sl F.elem23 ?_
   refine Y_cmp ?_
   refine Y_pick ?_
   refine XD_end ?_
   refine K_then ?_
   refine C_cond rfl (fun hc2 => ?_) (fun hc2 => ?_)
   ·replace hc2 := dT hc2
    refine C_skip ?_
    refine K_then ?_
    refine C_seq ?_
    refine C_block ?_
    refine C_seq ?_
    refine C_region (l := [0, 1, 2, 3, 4, 5, 6, 7]) rfl ?_
    iterate 3 refine Y_move ?_
    refine X_indexAddr rfl rfl rfl rfl F.elem23 (by rfl) (by omega) (by exact SlM.plain (by assumption) (by (simp; omega))) rfl ?_
    refine X_load_el rfl rfl rfl (by assumption) (by exact row_map (by omega)) F.lay31 rfl rfl rfl ?_
    refine Y_len_sl F.elem31 ?_
    refine X_ari rfl rfl rfl rfl rfl (by exact rfl) rfl ?_
    refine Y_assign ?_
    refine XD_end ?_
    refine K_then ?_
    refine C_seq ?_
    refine C_region (l := [0, 1, 2, 3, 4]) rfl ?_
    iterate 2 refine Y_move ?_
    refine X_indexAddr rfl rfl rfl rfl F.elem23 (by rfl) (by omega) (by exact SlM.plain (by assumption) (by (simp; omega))) rfl ?_
    refine X_load_el rfl rfl rfl (by assumption) (by exact row_map (by omega)) F.lay31 rfl rfl rfl ?_
    refine X_fs rfl rfl F.ok15 rfl (BigS_ok _ all_l[k] (hall1 _ (List.getElem_mem (n := k) (show k < all_l.length by omega))).1 (hall1 _ (List.getElem_mem (n := k) (show k < all_l.length by omega))).2) rfl ?_
    rintro _ ⟨bb, rfl⟩
    refine XD_end ?_
    refine K_then ?_
    refine C_cond rfl (fun hc3 => ?_) (fun hc3 => ?_)
    ·skip
     refine C_seq ?_
     refine C_region (l := [0]) rfl ?_
     refine Y_assign ?_
     refine XD_end ?_
     refine K_then ?_
     refine C_ret ?_
     refine K_retB ?_
     iterate 2 refine K_ret ?_
     refine K_retB ?_
     refine K_ret ?_
     refine K_end (.inr rfl) (.tmp rfl .nil) (fun w hw => ?_)
     exact ⟨_, rfl, hw.c, _, rfl⟩
    ·skip
     refine C_skip ?_
     refine K_out ?_
     refine K_then ?_
     refine C_region (l := [0, 1, 2]) rfl ?_
     refine Y_move ?_
     refine X_ari rfl rfl rfl rfl rfl (by exact wrap_in (by decide) (by omega)) rfl ?_
     refine Y_assign ?_
     refine XD_end ?_
     refine K_roundS (a' := [(4, _), (3, _)]) (k + 1) (.cons (k := 4) rfl (.cons (k := 3) rfl (.cons (k := 2) rfl (.cons (k := 0) rfl (.nil))))) (fun w hw => by first | exact hw | exact hw.c) ?_ ?_
     ·exact ⟨_, rfl, by omega⟩
     ·omega
   ·replace hc2 := dF hc2
    refine C_exit ?_
    iterate 2 refine K_exit ?_
    refine K_hit ?_
    refine K_then ?_
    refine Y_pk [3, 2, 0] ?_
    refine C_seq ?_
    refine C_region (l := [0, 1, 2, 3, 4, 5, 6, 7]) rfl ?_
    refine Y_move ?_
    refine Y_len_sl F.elem23 ?_
    refine Y_cmp ?_
    refine Y_move ?_
    refine XD_part 31 rfl (fun hc4 => ?_) (fun hc4 => ?_)
    ·replace hc4 := dT hc4
     iterate 2 refine Y_skip ?_
     refine Y_pick ?_
     refine Y_assign ?_
     refine XD_end ?_
     refine K_then ?_
     refine Y_pk [2] ?_
     refine C_ret ?_
     refine K_end (.inr rfl) (.tmp rfl .nil) (fun w hw => ?_)
     exact ⟨_, rfl, hw.c, _, rfl⟩
    ·replace hc4 := dF hc4
     (exfalso; omega)
  ·replace hc1 := dF hc1
   iterate 3 refine Y_skip ?_
   refine Y_pick ?_
   refine XD_end ?_
   refine K_then ?_
   refine C_false rfl ?_
   refine C_exit ?_
   iterate 2 refine K_exit ?_
   refine K_hit ?_
   refine K_then ?_
   refine Y_pk [3, 2, 0] ?_
   refine C_seq ?_
   refine C_region (l := [0, 1, 2, 3, 4, 5, 6, 7]) rfl ?_
   refine Y_move ?_
   refine Y_len_sl F.elem23 ?_
   refine Y_cmp ?_
   refine Y_move ?_
   refine XD_part 31 rfl (fun hc5 => ?_) (fun hc5 => ?_)
   ·replace hc5 := dT hc5
    iterate 2 refine Y_skip ?_
    refine Y_pick ?_
    refine Y_assign ?_
    refine XD_end ?_
    refine K_then ?_
    refine Y_pk [2] ?_
    refine C_ret ?_
    refine K_end (.inr rfl) (.tmp rfl .nil) (fun w hw => ?_)
    exact ⟨_, rfl, hw.c, _, rfl⟩
   ·replace hc5 := dF hc5
    refine Y_move ?_
    refine Y_cmp ?_
    refine Y_pick ?_
    refine Y_assign ?_
    refine XD_end ?_
    refine K_then ?_
    refine Y_pk [2] ?_
    refine C_ret ?_
    refine K_end (.inr rfl) (.tmp rfl .nil) (fun w hw => ?_)
    exact ⟨_, rfl, hw.c, _, rfl⟩

end Go.Proofs.Ytbafnjniijodfaa
/-
  Stores of a circle; who keeps what.
-/
set_option linter.unusedSimpArgs false
set_option linter.unusedVariables false
set_option linter.unnecessarySimpa false
set_option maxRecDepth 8000
set_option maxHeartbeats 1000000
namespace Go.Proofs.Ytbafnjniijodfaa
open Go.Esp
theorem F.ok50 : okFn Try.prog 50 = true := by kernel_rfl
theorem F.ok51 : okFn Try.prog 51 = true := by kernel_rfl
theorem F.ok56 : okFn Try.prog 56 = true := by kernel_rfl
theorem F.ok58 : okFn Try.prog 58 = true := by kernel_rfl
theorem F.ok69 : okFn Try.prog 69 = true := by kernel_rfl

theorem odd_ok (M : Mem) (s : (Sl HeldV)) (hs0 : SlK M HeldV.segs 24 s) (hs1 : ∀ y ∈ (s).l, HeldV.ok M y) : Fs Try.prog 50 [Sl.val s] M (fun v => v = Value.bool (decide (¬ IsSt (pls s.l)))) := by
  obtain ⟨s_a, s_c, s_l⟩ := s
  have k_s : SlK M HeldV.segs 24 ⟨s_a, s_c, s_l⟩ := hs0
  have s_s : SlM M s_a (s_l.map HeldV.segs) 24 := k_s.h1
  have n_s : (s_l.map HeldV.segs).length = s_l.length := List.length_map ..
  have m_s : s_l.length ≤ 9223372036854775807 := k_s.h2
  have c_s : s_l.length ≤ s_c := k_s.h3
  have l_s : ∀ y ∈ s_l, HeldV.ok M y := hs1
  refine fs_enter Try.func50 rfl Try.ntmps50 rfl ?_; intro H
  refine C_seq ?_
  refine C_region (l := [0]) rfl ?_
  refine Y_assign ?_
  refine XD_end ?_
  refine K_then ?_
  refine C_seq ?_
  refine C_region (l := [0, 1, 2, 3]) rfl ?_
  refine Y_move ?_
  refine X_fs rfl rfl F.ok23 rfl (StIs_ok _ ⟨_, _, _⟩ (by assumption) (by assumption)) rfl ?_
  rintro _ rfl
  refine Y_not ?_
  refine Y_assign ?_
  refine XD_end ?_
  refine K_then ?_
  refine Y_pk [2] ?_
  refine C_ret ?_
  refine K_end (.inr rfl) (.tmp rfl .nil) (fun w hw => ?_)
  refine ⟨_, rfl, (hw.c), ?_⟩
  clear hw
  refine congrArg Value.bool ?_
  simp

theorem IndexFS_rd (M : Mem) (Hin : Hp) (l : Sl (Sl HeldV)) (g : FuncId) (caps : List Value) (p : (Sl HeldV) → Bool) (hl : RdS M Hin l.a (l.l.map (fun x => [Seg.one (Sl.val x)])) 1) (bl : l.l.length ≤ 9223372036854775807) (hok : okFn Try.prog g = true) (hc : ∀ x ∈ l.l, Fo Try.prog g ([Sl.val x] ++ caps) M Hin (fun M' v => M' = M ∧ v = .bool (p x))) : Fo Try.prog 69 [l.val, .func (.func g) #[] caps.toArray] M Hin (fun M' v => M' = M ∧ v = .int .i64 (idxF p l.l)) := by
  have nl : (l.l.map (fun x => [Seg.one (Sl.val x)])).length = l.l.length := List.length_map ..
  refine fo_enter Try.func69 rfl Try.ntmps69 rfl ?_; intro H
  have hrd := hl.app H
  refine C_seq ?_
  refine C_region (l := [0]) rfl ?_
  refine Y_assign ?_
  refine XD_end ?_
  refine K_then ?_
  iterate 2 refine C_seq ?_
  refine C_region (l := [0, 1, 2]) rfl ?_
  refine Y_move ?_
  refine Y_len_sl F.elem23 ?_
  refine Y_move ?_
  refine XD_end ?_
  refine K_then ?_
  refine Y_pk [8, 7, 4, 0, 1] ?_
  refine C_block ?_
  refine Y_pk [8, 7, 4, 0, 1] ?_
  refine C_loopS (.succ .zero) (fun (k : Nat) z => z = [(8, .int .i64 (k : Int))] ∧ k ≤ l.l.length ∧ (∀ j (h : j < k) (h2 : j < l.l.length), p l.l[j] = false)) (fun k => l.l.length - k) (0) (⟨rfl, by omega, by (intro j hj; omega)⟩) ?_
  rintro k _ ⟨rfl, hk, hI⟩
  refine C_seq ?_
  refine C_region (l := [0]) rfl ?_
  refine Y_cmp ?_
  refine XD_end ?_
  refine K_then ?_
  refine C_seq ?_
  refine C_cond rfl (fun hc1 => ?_) (fun hc1 => ?_)
  ·skip
   replace hc1 := dT hc1
   refine C_skip ?_
   refine K_then ?_
   refine C_seq ?_
   refine C_block ?_
   refine C_seq ?_
   refine C_region (l := [0, 1]) rfl ?_
   refine Y_move ?_
   refine Y_assign ?_
   refine XD_end ?_
   refine K_then ?_
   refine C_seq ?_
   refine C_region (l := [0, 1, 2, 3, 4, 5]) rfl ?_
   iterate 3 refine Y_move ?_
   refine X_indexAddr rfl rfl rfl rfl F.elem23 (by rfl) (by omega) (by exact RdS.plain (by assumption) (by (simp; omega))) rfl ?_
   refine X_load_rd rfl rfl rfl (by assumption) (by exact row_map (by omega)) F.lay31 rfl rfl rfl ?_
   refine X_foV rfl rfl rfl hok rfl rfl (hc _ (List.getElem_mem (n := k) (by omega))) (Rem.here _) (putE_some rfl) ?_
   rintro _ M1 _ ⟨hM1, rfl⟩; subst M1
   refine XD_end ?_
   refine K_then ?_
   refine C_cond rfl (fun hc2 => ?_) (fun hc2 => ?_)
   ·skip
    have hP := hc2
    refine C_seq ?_
    refine C_region (l := [0, 1]) rfl ?_
    refine Y_move ?_
    refine Y_assign ?_
    refine XD_end ?_
    refine K_then ?_
    refine C_ret ?_
    refine K_retB ?_
    iterate 2 refine K_ret ?_
    refine K_retB ?_
    refine K_ret ?_
    refine K_end (.inr rfl) (.tmp rfl .nil) (fun w hw => ?_)
    refine ⟨_, M, rfl, Mem.le.refl M, hw.c, rfl, ?_⟩
    refine congrArg (Value.int .i64) ?_
    exact (idxF_at (by omega) (fun j hj => hI j hj _) hP).symm
   ·skip
    have hP := hc2
    refine C_skip ?_
    refine K_out ?_
    refine K_then ?_
    refine C_region (l := [0, 1]) rfl ?_
    refine X_ari rfl rfl rfl rfl rfl (by exact wrap_in (by decide) (by omega)) rfl ?_
    refine Y_move ?_
    refine XD_end ?_
    refine K_roundS (a' := [(8, _)]) (k + 1) (.cons (k := 8) rfl (.cons (k := 7) rfl (.cons (k := 4) rfl (.cons (k := 0) rfl (.cons (k := 1) rfl (.nil)))))) (fun w hw => by first | exact hw | exact hw.c) ?_ ?_
    ·refine ⟨rfl, by omega, ?_⟩
     (intro j hj hj2; rcases Nat.lt_or_ge j k with h9 | h9; exact hI j h9 hj2; obtain rfl : j = k := (by omega); simp_all)
    ·omega
  ·skip
   replace hc1 := dF hc1
   refine C_exit ?_
   iterate 2 refine K_exit ?_
   refine K_hit ?_
   refine K_then ?_
   refine Y_pk [4] ?_
   refine C_seq ?_
   refine C_region (l := [0]) rfl ?_
   refine Y_assign ?_
   refine XD_end ?_
   refine K_then ?_
   refine C_ret ?_
   refine K_end (.inr rfl) (.tmp rfl .nil) (fun w hw => ?_)
   refine ⟨_, M, rfl, Mem.le.refl M, hw.c, rfl, ?_⟩
   refine congrArg (Value.int .i64) ?_
   exact (idxF_none (fun j hj => hI j (by omega) hj)).symm

theorem ContainsFS_rd (M : Mem) (Hin : Hp) (l : Sl (Sl HeldV)) (g : FuncId) (caps : List Value) (p : (Sl HeldV) → Bool) (hl : RdS M Hin l.a (l.l.map (fun x => [Seg.one (Sl.val x)])) 1) (bl : l.l.length ≤ 9223372036854775807) (hok : okFn Try.prog g = true) (hc : ∀ x ∈ l.l, Fo Try.prog g ([Sl.val x] ++ caps) M Hin (fun M' v => M' = M ∧ v = .bool (p x))) : Fo Try.prog 51 [l.val, .func (.func g) #[] caps.toArray] M Hin (fun M' v => M' = M ∧ v = .bool (l.l.any p)) := by
  refine fo_enter Try.func51 rfl Try.ntmps51 rfl ?_; intro H
  refine C_seq ?_
  refine C_region (l := [0]) rfl ?_
  refine Y_assign ?_
  refine XD_end ?_
  refine K_then ?_
  refine C_seq ?_
  refine C_region (l := [0, 1, 2, 3, 4]) rfl ?_
  iterate 2 refine Y_move ?_
  refine X_fo rfl rfl F.ok69 rfl (IndexFS_rd _ Hin ⟨_, _, _⟩ g caps p hl bl hok hc) (by repeat first | exact Rem.here _ | exact Rem.two | apply Rem.skip | apply Rem.over) (putE_some rfl) ?_
  rintro _ M1 _ ⟨hM1, rfl⟩; subst M1
  refine Y_cmp ?_
  refine Y_assign ?_
  refine XD_end ?_
  refine K_then ?_
  refine Y_pk [4] ?_
  refine C_ret ?_
  refine K_end (.inr rfl) (.tmp rfl .nil) (fun w hw => ?_)
  exact ⟨_, M, rfl, Mem.le.refl M, hw.c, rfl, congrArg Value.bool idxF_nn⟩

theorem right_ok (M : Mem) (l : (Sl PeerV)) (r : Int) (all : (Sl (Sl HeldV))) (hl0 : SlK M PeerV.segs 21 l) (hall1 : SlK M (fun x => [Seg.one (Sl.val x)]) 1 all) (hall2 : ∀ y ∈ (all).l, SlK M HeldV.segs 24 y ∧ ∀ y1 ∈ (y).l, HeldV.ok M y1) : Fs Try.prog 28 [Sl.val l, .int .i64 r, Sl.val all] M (fun v => v = Value.bool (decide (CircSt l.l r (plss all.l)))) := by
  obtain ⟨l_a, l_c, l_l⟩ := l
  obtain ⟨all_a, all_c, all_l⟩ := all
  have k_l : SlK M PeerV.segs 21 ⟨l_a, l_c, l_l⟩ := hl0
  have s_l : SlM M l_a (l_l.map PeerV.segs) 21 := k_l.h1
  have n_l : (l_l.map PeerV.segs).length = l_l.length := List.length_map ..
  have m_l : l_l.length ≤ 9223372036854775807 := k_l.h2
  have c_l : l_l.length ≤ l_c := k_l.h3
  have k_all : SlK M (fun x => [Seg.one (Sl.val x)]) 1 ⟨all_a, all_c, all_l⟩ := hall1
  have s_all : SlM M all_a (all_l.map (fun x => [Seg.one (Sl.val x)])) 1 := k_all.h1
  have n_all : (all_l.map (fun x => [Seg.one (Sl.val x)])).length = all_l.length := List.length_map ..
  have m_all : all_l.length ≤ 9223372036854775807 := k_all.h2
  have c_all : all_l.length ≤ all_c := k_all.h3
  refine fs_enter Try.func28 rfl Try.ntmps28 rfl ?_; intro H
  refine C_seq ?_
  refine C_region (l := [0]) rfl ?_
  refine Y_assign ?_
  refine XD_end ?_
  refine K_then ?_
  refine C_seq ?_
  refine C_region (l := [0]) rfl ?_
  refine Y_assign ?_
  refine XD_end ?_
  refine K_then ?_
  refine C_seq ?_
  refine C_region (l := [0, 1, 2, 3, 4, 5, 6, 7, 8, 9, 10, 11, 12, 13, 14, 15, 16, 17, 18, 19, 20, 21, 22, 23]) rfl ?_
  refine Y_move ?_
  refine X_fs rfl rfl F.ok48 rfl (Circ_ok _ ⟨_, _, _⟩ (by assumption)) rfl ?_
  rintro _ rfl
  refine Y_move ?_
  refine XD_part 10 rfl (fun hc1 => ?_) (fun hc1 => ?_)
  ·replace hc1 := dT hc1
   simp only [AnswerV.eta, MarkV.eta, CellV.eta, HeldV.eta, PeerV.eta] at hc1
   refine Y_move ?_
   refine Y_cmp ?_
   refine Y_pick ?_
   refine Y_move ?_
   refine XD_part 14 rfl (fun hc2 => ?_) (fun hc2 => ?_)
   ·replace hc2 := dT hc2
    refine Y_move ?_
    refine Y_cmp ?_
    refine Y_pick ?_
    refine Y_move ?_
    refine XD_part 18 rfl (fun hc3 => ?_) (fun hc3 => ?_)
    ·replace hc3 := dT hc3
     refine Y_move ?_
     refine Y_len_sl F.elem23 ?_
     refine Y_move ?_
     refine Y_len_sl F.elem22 ?_
     refine Y_cmp ?_
     refine Y_pick ?_
     refine Y_move ?_
     refine XD_part 25 rfl (fun hc4 => ?_) (fun hc4 => ?_)
     ·replace hc4 := dT hc4
      iterate 2 refine Y_move ?_
      refine X_fo rfl rfl F.ok51 rfl (ContainsFS_rd _ [] ⟨all_a, all_c, all_l⟩ 50 [] (fun s : Sl HeldV => decide (¬ IsSt (pls s.l))) (s_all.rd []) m_all F.ok50 (fun x hx => (odd_ok M x (hall2 x hx).1 (hall2 x hx).2).foE [])) (by repeat first | exact Rem.here _ | exact Rem.two | apply Rem.skip | apply Rem.over) (putE_some rfl) ?_
      rintro _ M1 _ ⟨hM1, rfl⟩; subst M1
      refine Y_not ?_
      refine Y_pick ?_
      refine Y_assign ?_
      refine XD_end ?_
      refine K_then ?_
      refine Y_pk [6] ?_
      refine C_ret ?_
      refine K_end (.inr rfl) (.tmp rfl .nil) (fun w hw => ?_)
      refine ⟨_, rfl, (hw.c), ?_⟩
      clear hw
      show _ = Value.bool (decide (CircSt l_l r (plss all_l)))
      refine congrArg Value.bool ?_
      (rw [Bool.eq_iff_iff]; simp only [Bool.not_eq_true', List.any_eq_false, decide_eq_true_eq]; exact ⟨fun h9 => ⟨by assumption, by omega, by rw [plss_len]; omega, fun s hs => by obtain ⟨x, hx, rfl⟩ := List.mem_map.1 hs; have := h9 x hx; simpa using this⟩, fun h9 x hx => by simpa using h9.2.2.2 _ (List.mem_map_of_mem hx)⟩)
     ·replace hc4 := dF hc4
      iterate 4 refine Y_skip ?_
      refine Y_pick ?_
      refine Y_assign ?_
      refine XD_end ?_
      refine K_then ?_
      refine Y_pk [6] ?_
      refine C_ret ?_
      refine K_end (.inr rfl) (.tmp rfl .nil) (fun w hw => ?_)
      refine ⟨_, rfl, (hw.c), ?_⟩
      clear hw
      show _ = Value.bool (decide (CircSt l_l r (plss all_l)))
      refine congrArg Value.bool ?_
      exact (decide_eq_false (fun h9 => by obtain ⟨g1, g2, g3, g4⟩ := h9; rw [plss_len] at g3; first | omega | contradiction | (simp_all; done))).symm
    ·replace hc3 := dF hc3
     iterate 5 refine Y_skip ?_
     refine Y_pick ?_
     refine Y_move ?_
     iterate 4 refine Y_skip ?_
     refine Y_pick ?_
     refine Y_assign ?_
     refine XD_end ?_
     refine K_then ?_
     refine Y_pk [6] ?_
     refine C_ret ?_
     refine K_end (.inr rfl) (.tmp rfl .nil) (fun w hw => ?_)
     refine ⟨_, rfl, (hw.c), ?_⟩
     clear hw
     show _ = Value.bool (decide (CircSt l_l r (plss all_l)))
     refine congrArg Value.bool ?_
     exact (decide_eq_false (fun h9 => by obtain ⟨g1, g2, g3, g4⟩ := h9; rw [plss_len] at g3; first | omega | contradiction | (simp_all; done))).symm
   ·replace hc2 := dF hc2
    iterate 2 refine Y_skip ?_
    refine Y_pick ?_
    refine Y_move ?_
    iterate 5 refine Y_skip ?_
    refine Y_pick ?_
    refine Y_move ?_
    iterate 4 refine Y_skip ?_
    refine Y_pick ?_
    refine Y_assign ?_
    refine XD_end ?_
    refine K_then ?_
    refine Y_pk [6] ?_
    refine C_ret ?_
    refine K_end (.inr rfl) (.tmp rfl .nil) (fun w hw => ?_)
    refine ⟨_, rfl, (hw.c), ?_⟩
    clear hw
    show _ = Value.bool (decide (CircSt l_l r (plss all_l)))
    refine congrArg Value.bool ?_
    exact (decide_eq_false (fun h9 => by obtain ⟨g1, g2, g3, g4⟩ := h9; rw [plss_len] at g3; first | omega | contradiction | (simp_all; done))).symm
  ·replace hc1 := dF hc1
   simp only [AnswerV.eta, MarkV.eta, CellV.eta, HeldV.eta, PeerV.eta] at hc1
   iterate 2 refine Y_skip ?_
   refine Y_pick ?_
   refine Y_move ?_
   iterate 2 refine Y_skip ?_
   refine Y_pick ?_
   refine Y_move ?_
   iterate 5 refine Y_skip ?_
   refine Y_pick ?_
   refine Y_move ?_
   iterate 4 refine Y_skip ?_
   refine Y_pick ?_
   refine Y_assign ?_
   refine XD_end ?_
   refine K_then ?_
   refine Y_pk [6] ?_
   refine C_ret ?_
   refine K_end (.inr rfl) (.tmp rfl .nil) (fun w hw => ?_)
   refine ⟨_, rfl, (hw.c), ?_⟩
   clear hw
   show _ = Value.bool (decide (CircSt l_l r (plss all_l)))
   refine congrArg Value.bool ?_
   exact (decide_eq_false (fun h9 => by obtain ⟨g1, g2, g3, g4⟩ := h9; rw [plss_len] at g3; first | omega | contradiction | (simp_all; done))).symm

theorem rCircSt_ok (M : Mem) (l : (Sl PeerV)) (r : Int) (all : (Sl (Sl HeldV))) (hl0 : SlK M PeerV.segs 21 l) (hall1 : SlK M (fun x => [Seg.one (Sl.val x)]) 1 all) (hall2 : ∀ y ∈ (all).l, SlK M HeldV.segs 24 y ∧ ∀ y1 ∈ (y).l, HeldV.ok M y1) : Fs Try.prog 33 [Sl.val l, .int .i64 r, Sl.val all] M (fun v => v = Value.bool (decide (CircSt l.l r (plss all.l)))) := by
  obtain ⟨l_a, l_c, l_l⟩ := l
  obtain ⟨all_a, all_c, all_l⟩ := all
  have k_l : SlK M PeerV.segs 21 ⟨l_a, l_c, l_l⟩ := hl0
  have s_l : SlM M l_a (l_l.map PeerV.segs) 21 := k_l.h1
  have n_l : (l_l.map PeerV.segs).length = l_l.length := List.length_map ..
  have m_l : l_l.length ≤ 9223372036854775807 := k_l.h2
  have c_l : l_l.length ≤ l_c := k_l.h3
  have k_all : SlK M (fun x => [Seg.one (Sl.val x)]) 1 ⟨all_a, all_c, all_l⟩ := hall1
  have s_all : SlM M all_a (all_l.map (fun x => [Seg.one (Sl.val x)])) 1 := k_all.h1
  have n_all : (all_l.map (fun x => [Seg.one (Sl.val x)])).length = all_l.length := List.length_map ..
  have m_all : all_l.length ≤ 9223372036854775807 := k_all.h2
  have c_all : all_l.length ≤ all_c := k_all.h3
  refine fs_enter Try.func33 rfl Try.ntmps33 rfl ?_; intro H
  refine C_seq ?_
  refine C_region (l := [0]) rfl ?_
  refine Y_assign ?_
  refine XD_end ?_
  refine K_then ?_
  iterate 2 refine C_seq ?_
  refine C_region (l := [0, 1, 2, 3, 4, 5, 6, 7, 8, 9, 10, 11, 12, 13, 14, 15, 16, 17]) rfl ?_
  refine Y_move ?_
  refine X_fs rfl rfl F.ok57 rfl (rCirc_ok _ ⟨_, _, _⟩ (by assumption)) rfl ?_
  rintro _ rfl
  refine Y_not ?_
  refine Y_move ?_
  refine XD_part 11 rfl (fun hc1 => ?_) (fun hc1 => ?_)
  ·replace hc1 := nT hc1
   simp only [AnswerV.eta, MarkV.eta, CellV.eta, HeldV.eta, PeerV.eta] at hc1
   iterate 2 refine Y_skip ?_
   refine Y_pick ?_
   refine Y_move ?_
   iterate 2 refine Y_skip ?_
   refine Y_pick ?_
   refine Y_move ?_
   iterate 5 refine Y_skip ?_
   refine Y_pick ?_
   refine XD_end ?_
   refine K_then ?_
   refine Y_pk [25, 6, 2] ?_
   refine C_true rfl ?_
   refine C_seq ?_
   refine C_region (l := [0]) rfl ?_
   refine Y_assign ?_
   refine XD_end ?_
   refine K_then ?_
   refine Y_pk [6, 2] ?_
   refine C_ret ?_
   refine K_ret ?_
   refine K_end (.inr rfl) (.tmp rfl .nil) (fun w hw => ?_)
   refine ⟨_, rfl, (hw.c), ?_⟩
   clear hw
   show _ = Value.bool (decide (CircSt l_l r (plss all_l)))
   exact congrArg Value.bool (decide_eq_false (fun h9 => by obtain ⟨g1, g2, g3, g4⟩ := h9; rw [plss_len] at g3; first | omega | contradiction)).symm
  ·replace hc1 := nF hc1
   simp only [AnswerV.eta, MarkV.eta, CellV.eta, HeldV.eta, PeerV.eta] at hc1
   refine Y_move ?_
   refine Y_cmp ?_
   refine Y_pick ?_
   refine Y_move ?_
   refine XD_part 15 rfl (fun hc2 => ?_) (fun hc2 => ?_)
   ·replace hc2 := dT hc2
    iterate 2 refine Y_skip ?_
    refine Y_pick ?_
    refine Y_move ?_
    iterate 5 refine Y_skip ?_
    refine Y_pick ?_
    refine XD_end ?_
    refine K_then ?_
    refine Y_pk [25, 6, 2] ?_
    refine C_true rfl ?_
    refine C_seq ?_
    refine C_region (l := [0]) rfl ?_
    refine Y_assign ?_
    refine XD_end ?_
    refine K_then ?_
    refine Y_pk [6, 2] ?_
    refine C_ret ?_
    refine K_ret ?_
    refine K_end (.inr rfl) (.tmp rfl .nil) (fun w hw => ?_)
    refine ⟨_, rfl, (hw.c), ?_⟩
    clear hw
    show _ = Value.bool (decide (CircSt l_l r (plss all_l)))
    exact congrArg Value.bool (decide_eq_false (fun h9 => by obtain ⟨g1, g2, g3, g4⟩ := h9; rw [plss_len] at g3; first | omega | contradiction)).symm
   ·replace hc2 := dF hc2
    refine Y_move ?_
    refine Y_cmp ?_
    refine Y_pick ?_
    refine Y_move ?_
    refine XD_part 19 rfl (fun hc3 => ?_) (fun hc3 => ?_)
    ·replace hc3 := dT hc3
     iterate 5 refine Y_skip ?_
     refine Y_pick ?_
     refine XD_end ?_
     refine K_then ?_
     refine Y_pk [25, 6, 2] ?_
     refine C_true rfl ?_
     refine C_seq ?_
     refine C_region (l := [0]) rfl ?_
     refine Y_assign ?_
     refine XD_end ?_
     refine K_then ?_
     refine Y_pk [6, 2] ?_
     refine C_ret ?_
     refine K_ret ?_
     refine K_end (.inr rfl) (.tmp rfl .nil) (fun w hw => ?_)
     refine ⟨_, rfl, (hw.c), ?_⟩
     clear hw
     show _ = Value.bool (decide (CircSt l_l r (plss all_l)))
     exact congrArg Value.bool (decide_eq_false (fun h9 => by obtain ⟨g1, g2, g3, g4⟩ := h9; rw [plss_len] at g3; first | omega | contradiction)).symm
    ·replace hc3 := dF hc3
     refine Y_move ?_
     refine Y_len_sl F.elem23 ?_
     refine Y_move ?_
     refine Y_len_sl F.elem22 ?_
     refine Y_cmp ?_
     refine Y_pick ?_
     refine XD_end ?_
     refine K_then ?_
     refine Y_pk [25, 6, 2] ?_
     refine C_cond rfl (fun hc4 => ?_) (fun hc4 => ?_)
     ·replace hc4 := nT hc4
      refine C_seq ?_
      refine C_region (l := [0]) rfl ?_
      refine Y_assign ?_
      refine XD_end ?_
      refine K_then ?_
      refine Y_pk [6, 2] ?_
      refine C_ret ?_
      refine K_ret ?_
      refine K_end (.inr rfl) (.tmp rfl .nil) (fun w hw => ?_)
      refine ⟨_, rfl, (hw.c), ?_⟩
      clear hw
      show _ = Value.bool (decide (CircSt l_l r (plss all_l)))
      exact congrArg Value.bool (decide_eq_false (fun h9 => by obtain ⟨g1, g2, g3, g4⟩ := h9; rw [plss_len] at g3; first | omega | contradiction)).symm
     ·replace hc4 := nF hc4
      refine C_skip ?_
      refine K_then ?_
      refine Y_pk [6, 2] ?_
      iterate 2 refine C_seq ?_
      refine C_region (l := [0]) rfl ?_
      refine Y_assign ?_
      refine XD_end ?_
      refine K_then ?_
      refine C_block ?_
      refine Y_pk [7, 6, 2] ?_
      refine C_loopS (.succ .zero) (fun (k : Nat) z => z = [(7, .int .i64 (k : Int))] ∧ k ≤ all_l.length ∧ (∀ j (h2 : j < all_l.length), j < k → IsSt (pls all_l[j].l))) (fun k => all_l.length - k) (0) (⟨rfl, by omega, by (intro j h2 hj; omega)⟩) ?_
      rintro k _ ⟨rfl, hk, hI⟩
      iterate 2 refine C_seq ?_
      refine C_region (l := [0, 1, 2, 3]) rfl ?_
      iterate 2 refine Y_move ?_
      refine Y_len_sl F.elem23 ?_
      refine Y_cmp ?_
      refine XD_end ?_
      refine K_then ?_
      refine C_cond rfl (fun hc5 => ?_) (fun hc5 => ?_)
      ·replace hc5 := dT hc5
       refine C_skip ?_
       refine K_then ?_
       refine C_seq ?_
       refine C_block ?_
       refine C_seq ?_
       refine C_region (l := [0, 1, 2, 3, 4, 5]) rfl ?_
       iterate 2 refine Y_move ?_
       refine X_indexAddr rfl rfl rfl rfl F.elem23 (by rfl) (by omega) (by exact SlM.plain (by assumption) (by (simp; omega))) rfl ?_
       refine X_load_el rfl rfl rfl (by assumption) (by exact row_map (by omega)) F.lay31 rfl rfl rfl ?_
       refine X_fs rfl rfl F.ok24 rfl (rStIs_ok _ all_l[k] (hall2 _ (List.getElem_mem (n := k) (show k < all_l.length by omega))).1 (hall2 _ (List.getElem_mem (n := k) (show k < all_l.length by omega))).2) rfl ?_
       rintro _ rfl
       refine Y_not ?_
       refine XD_end ?_
       refine K_then ?_
       refine C_cond rfl (fun hc6 => ?_) (fun hc6 => ?_)
       ·replace hc6 := nT hc6
        refine C_seq ?_
        refine C_region (l := [0]) rfl ?_
        refine Y_assign ?_
        refine XD_end ?_
        refine K_then ?_
        refine C_ret ?_
        refine K_retB ?_
        iterate 2 refine K_ret ?_
        refine K_retB ?_
        refine K_ret ?_
        refine K_end (.inr rfl) (.tmp rfl .nil) (fun w hw => ?_)
        refine ⟨_, rfl, (hw.c), ?_⟩
        clear hw
        show _ = Value.bool (decide (CircSt l_l r (plss all_l)))
        exact congrArg Value.bool (decide_eq_false (fun h9 => absurd (h9.2.2.2 _ (List.mem_map_of_mem (List.getElem_mem (n := k) (show k < all_l.length by omega)))) (by assumption))).symm
       ·replace hc6 := nF hc6
        refine C_skip ?_
        refine K_out ?_
        refine K_then ?_
        refine C_region (l := [0, 1, 2]) rfl ?_
        refine Y_move ?_
        refine X_ari rfl rfl rfl rfl rfl (by exact wrap_in (by decide) (by omega)) rfl ?_
        refine Y_assign ?_
        refine XD_end ?_
        refine K_roundS (a' := [(7, _)]) (k + 1) (.cons (k := 7) rfl (.cons (k := 6) rfl (.cons (k := 2) rfl (.nil)))) (fun w hw => by first | exact hw | exact hw.c) ?_ ?_
        ·refine ⟨rfl, by omega, ?_⟩
         (intro j h2 hj; rcases Nat.lt_or_ge j k with h9 | h9; exact hI j h2 h9; have hjk : j = k := (by omega); subst hjk; first | assumption | (simp_all; done))
        ·omega
      ·replace hc5 := dF hc5
       refine C_exit ?_
       iterate 2 refine K_exit ?_
       refine K_hit ?_
       refine K_then ?_
       refine Y_pk [6] ?_
       refine C_seq ?_
       refine C_region (l := [0]) rfl ?_
       refine Y_assign ?_
       refine XD_end ?_
       refine K_then ?_
       refine C_ret ?_
       refine K_end (.inr rfl) (.tmp rfl .nil) (fun w hw => ?_)
       refine ⟨_, rfl, (hw.c), ?_⟩
       clear hw
       show _ = Value.bool (decide (CircSt l_l r (plss all_l)))
       exact congrArg Value.bool (decide_eq_true ⟨by assumption, by omega, by rw [plss_len]; omega, fun s hs => by obtain ⟨x, hx, rfl⟩ := List.mem_map.1 hs; obtain ⟨j, hj, rfl⟩ := List.getElem_of_mem hx; exact hI j hj (by omega)⟩).symm

theorem keepers_ok (M : Mem) (l : (Sl PeerV)) (r : Int) (key : Plc) (hl0 : SlK M PeerV.segs 21 l) : Esp.Fn Try.prog 32 [Sl.val l, .int .i64 r, aggV [idSeg key]] M (fun M' v => ∃ s : Sl Int, v = s.val ∧ s.l = (copiesR l.l key r).1 ∧ SlK M' (oneI .i64) 1 s) := by
  obtain ⟨l_a, l_c, l_l⟩ := l
  have k_l : SlK M PeerV.segs 21 ⟨l_a, l_c, l_l⟩ := hl0
  have s_l : SlM M l_a (l_l.map PeerV.segs) 21 := k_l.h1
  have n_l : (l_l.map PeerV.segs).length = l_l.length := List.length_map ..
  have m_l : l_l.length ≤ 9223372036854775807 := k_l.h2
  have c_l : l_l.length ≤ l_c := k_l.h3
  refine fn_enter Try.func32 rfl Try.ntmps32 rfl ?_; intro H
  refine C_seq ?_
  refine C_region (l := [0, 1]) rfl ?_
  refine Y_box ?_; intro b1
  refine Y_assign ?_
  refine XD_end ?_
  refine K_then ?_
  refine Y_pk [6, 5, 0, 1] ?_
  refine C_seq ?_
  refine C_region (l := [0, 1, 2, 3, 4, 5, 6, 7, 8]) rfl ?_
  refine Y_move ?_
  refine Y_load F.lay33 ?_
  refine Y_move ?_
  refine X_fn rfl rfl F.ok56 rfl (Copies_ok _ ⟨l_a, l_c, l_l⟩ key r (k_l.mono (by exact Mem.le.refl _))) rfl ?_
  rintro _ M1 hm1 ⟨⟨q_a, q_c, q_l⟩, rfl, hql, k_q⟩
  simp only at hql
  have s_q := k_q.h1
  simp only at s_q
  have m_q : q_l.length ≤ 9223372036854775807 := k_q.h2
  have n_q : (q_l.map (oneI .i64)).length = q_l.length := List.length_map ..
  refine Y_move ?_
  iterate 2 refine Y_extract ?_
  iterate 2 refine Y_assign ?_
  refine XD_end ?_
  refine K_then ?_
  refine Y_pk [7, 6] ?_
  refine C_seq ?_
  refine C_region (l := [0, 1]) rfl ?_
  refine Y_move ?_
  refine Y_assign ?_
  refine XD_end ?_
  refine K_then ?_
  refine Y_pk [6] ?_
  refine C_ret ?_
  refine K_end (.inr rfl) (.tmp rfl .nil) (fun w hw => ?_)
  exact ⟨_, M1, rfl, hm1, hw.c, ⟨q_a, q_c, q_l⟩, rfl, hql, k_q⟩

theorem Keeps_ok (M : Mem) (l : (Sl PeerV)) (r : Int) (i : Int) (key : Plc) (hl0 : SlK M PeerV.segs 21 l) : Esp.Fn Try.prog 34 [Sl.val l, .int .i64 r, .int .i64 i, aggV [idSeg key]] M (fun M' v => v = .bool (keepsR l.l r i key)) := by
  obtain ⟨l_a, l_c, l_l⟩ := l
  have k_l : SlK M PeerV.segs 21 ⟨l_a, l_c, l_l⟩ := hl0
  have s_l : SlM M l_a (l_l.map PeerV.segs) 21 := k_l.h1
  have n_l : (l_l.map PeerV.segs).length = l_l.length := List.length_map ..
  have m_l : l_l.length ≤ 9223372036854775807 := k_l.h2
  have c_l : l_l.length ≤ l_c := k_l.h3
  refine fn_enter Try.func34 rfl Try.ntmps34 rfl ?_; intro H
  refine C_seq ?_
  refine C_region (l := [0, 1]) rfl ?_
  refine Y_box ?_; intro b1
  refine Y_assign ?_
  refine XD_end ?_
  refine K_then ?_
  refine Y_pk [8, 7, 0, 1, 2] ?_
  refine C_seq ?_
  refine C_region (l := [0, 1, 2, 3, 4, 5, 6, 7, 8]) rfl ?_
  refine Y_move ?_
  refine Y_load F.lay33 ?_
  refine Y_move ?_
  refine X_fn rfl rfl F.ok58 rfl (rCopies_ok _ ⟨l_a, l_c, l_l⟩ key r (k_l.mono (by exact Mem.le.refl _))) rfl ?_
  rintro _ M1 hm1 ⟨⟨q_a, q_c, q_l⟩, rfl, hql, k_q⟩
  simp only at hql
  have s_q := k_q.h1
  simp only at s_q
  have m_q : q_l.length ≤ 9223372036854775807 := k_q.h2
  have n_q : (q_l.map (oneI .i64)).length = q_l.length := List.length_map ..
  refine Y_move ?_
  iterate 2 refine Y_extract ?_
  iterate 2 refine Y_assign ?_
  refine XD_end ?_
  refine K_then ?_
  refine Y_pk [9, 8, 2] ?_
  iterate 2 refine C_seq ?_
  refine C_region (l := [0]) rfl ?_
  refine Y_assign ?_
  refine XD_end ?_
  refine K_then ?_
  refine C_block ?_
  refine Y_pk [11, 9, 8, 2] ?_
  refine C_loopO (Hin := []) (.succ .zero) (by repeat first | exact Rem.here _ | exact Rem.two | apply Rem.skip | apply Rem.over) (fun (k : Nat) M2 h2 z => M2 = M1 ∧ h2 = [] ∧ z = [(11, .int .i64 (k : Int))] ∧ k ≤ q_l.length ∧ ∀ j (h2 : j < q_l.length), j < k → ¬ q_l[j] = i) (fun k => q_l.length - k) (0) (⟨rfl, rfl, rfl, by omega, fun j h2 hj => by omega⟩) ?_
  rintro k M2 h2 z hm2 ⟨hM2, rfl, rfl, hk, hI⟩
  subst M2
  iterate 2 refine C_seq ?_
  refine C_region (l := [0, 1, 2, 3]) rfl ?_
  iterate 2 refine Y_move ?_
  refine Y_len_sl F.elem52 ?_
  refine Y_cmp ?_
  refine XD_end ?_
  refine K_then ?_
  refine C_cond rfl (fun hc2 => ?_) (fun hc2 => ?_)
  ·replace hc2 := dT hc2
   refine C_skip ?_
   refine K_then ?_
   refine C_seq ?_
   refine C_block ?_
   refine C_seq ?_
   refine C_region (l := [0, 1, 2, 3, 4, 5]) rfl ?_
   iterate 2 refine Y_move ?_
   refine X_indexAddr rfl rfl rfl rfl F.elem52 (by rfl) (by omega) (by exact SlM.plain (by assumption) (by (simp; omega))) rfl ?_
   refine X_load_el rfl rfl rfl (by assumption) (by exact row_map (by omega)) F.lay3 rfl rfl rfl ?_
   refine Y_move ?_
   refine Y_cmp ?_
   refine XD_end ?_
   refine K_then ?_
   refine C_cond rfl (fun hc3 => ?_) (fun hc3 => ?_)
   ·replace hc3 := dT hc3
    refine C_seq ?_
    refine C_region (l := [0]) rfl ?_
    refine Y_assign ?_
    refine XD_end ?_
    refine K_then ?_
    refine C_ret ?_
    refine K_retB ?_
    iterate 2 refine K_ret ?_
    refine K_retB ?_
    refine K_ret ?_
    refine K_end (.inr rfl) (.tmp rfl .nil) (fun w hw => ?_)
    refine ⟨_, M1, rfl, hm1, hw.c, ?_⟩
    clear hw
    refine congrArg Value.bool ?_
    unfold keepsR
    rw [← hql]
    exact (decide_eq_true (by have h9 : q_l[k] = i := (by assumption); rw [← h9]; exact List.getElem_mem _)).symm
   ·replace hc3 := dF hc3
    refine C_skip ?_
    refine K_out ?_
    refine K_then ?_
    refine C_region (l := [0, 1, 2]) rfl ?_
    refine Y_move ?_
    refine X_ari rfl rfl rfl rfl rfl (by exact wrap_in (by decide) (by omega)) rfl ?_
    refine Y_assign ?_
    refine XD_end ?_
    refine K_roundO (a' := [(11, _)]) (k + 1) ([]) (.cons (k := 11) rfl (.cons (k := 9) rfl (.cons (k := 8) rfl (.cons (k := 2) rfl (.nil))))) (by exact Mem.le.refl _) (fun w hw => by first | exact hw | exact hw.c) ?_ ?_
    ·refine ⟨rfl, rfl, rfl, by omega, fun j h2 hj => ?_⟩
     rcases Nat.lt_or_ge j k with h9 | h9
     ·exact hI j h2 h9
     ·obtain rfl : j = k := by omega
      assumption
    ·omega
  ·replace hc2 := dF hc2
   refine C_exit ?_
   iterate 2 refine K_exit ?_
   refine K_hit ?_
   refine K_then ?_
   refine Y_pk [8] ?_
   refine C_seq ?_
   refine C_region (l := [0]) rfl ?_
   refine Y_assign ?_
   refine XD_end ?_
   refine K_then ?_
   refine C_ret ?_
   refine K_end (.inr rfl) (.tmp rfl .nil) (fun w hw => ?_)
   refine ⟨_, M1, rfl, hm1, hw.c, ?_⟩
   clear hw
   refine congrArg Value.bool ?_
   unfold keepsR
   rw [← hql]
   exact (decide_eq_false (fun h9 => by obtain ⟨j, hj, he⟩ := List.getElem_of_mem h9; exact hI j hj (by omega) he)).symm

end Go.Proofs.Ytbafnjniijodfaa
/-
  Whole circles, in plain Lean.
-/
set_option linter.unusedSimpArgs false
set_option linter.unusedVariables false
set_option linter.unnecessarySimpa false
namespace Go.Esp
/-- Has a peer a cell just if it has to, and is it this one? -/
def W1 (l : List PeerV) (r : Int) (all : List (List Hd)) (h : Hd) (n : Nat) : Prop := ∀ hn : n < all.length, (findS all[n] h.key).isSome = keepsR l r (n : Int) h.key ∧ ∀ c, findS all[n] h.key = some c → c = h.cell
theorem W1_iff {l : List PeerV} {r : Int} {A : List (Sl HeldV)} {h : HeldV} {n : Nat} (hn : n < A.length) {c : CellV} {b : Bool} (hx : findX A[n].l h.key = (c, b)) : W1 l r (plss A) (HeldV.pl h) n ↔ (b = keepsR l r (n : Int) h.key ∧ (b = true → c.pl = h.cell.pl)) := by
  have h1 := findX_S hx
  have hn' : n < (plss A).length := by rw [plss_len]; exact hn
  have e : findS (plss A)[n] (HeldV.pl h).key = if b then some c.pl else none := by rw [plss_at hn]; exact h1
  unfold W1
  constructor
  · intro g
    obtain ⟨g1, g2⟩ := g hn'
    rw [e] at g1 g2
    simp only [show (HeldV.pl h).key = h.key from rfl] at g1
    cases b
    · exact ⟨by simpa using g1, by simp⟩
    · exact ⟨by simpa using g1, fun _ => g2 _ rfl⟩
  · rintro ⟨g1, g2⟩ _
    rw [e]
    simp only [show (HeldV.pl h).key = h.key from rfl]
    cases b
    · exact ⟨by simpa using g1, by simp⟩
    · refine ⟨by simpa using g1, fun c' hc => ?_⟩
      simp only [if_true, Option.some.injEq] at hc
      rw [← hc]; exact g2 rfl
theorem wholeW_yes {l : List PeerV} {r : Int} {A : List (Sl HeldV)} (h : ∀ i (hi : i < A.length) j (hj : j < A[i].l.length) n, n < A.length → W1 l r (plss A) (HeldV.pl A[i].l[j]) n) : WholeOk l r (plss A) := by
  intro s hs x hx n hn
  obtain ⟨y, hy, rfl⟩ := List.mem_map.1 hs
  obtain ⟨i, hi, rfl⟩ := List.getElem_of_mem hy
  obtain ⟨z, hz, rfl⟩ := List.mem_map.1 hx
  obtain ⟨j, hj, rfl⟩ := List.getElem_of_mem hz
  exact h i hi j hj n (by rw [plss_len] at hn; exact hn) hn
theorem wholeW_no {l : List PeerV} {r : Int} {A : List (Sl HeldV)} {i j n : Nat} (hi : i < A.length) (hj : j < A[i].l.length) (h : ¬ W1 l r (plss A) (HeldV.pl A[i].l[j]) n) : ¬ WholeOk l r (plss A) := fun g =>
  h fun hn => g _ (List.mem_map_of_mem (List.getElem_mem hi)) _ (List.mem_map_of_mem (List.getElem_mem hj)) n hn
end Go.Esp
/-
  Are stores whole, by the program.
-/
set_option linter.unusedSimpArgs false
set_option linter.unusedVariables false
set_option linter.unnecessarySimpa false
set_option maxRecDepth 8000
set_option maxHeartbeats 1000000
namespace Go.Proofs.Ytbafnjniijodfaa
open Go.Esp
theorem F.ok17 : okFn Try.prog 17 = true := by kernel_rfl
theorem F.ok28 : okFn Try.prog 28 = true := by kernel_rfl
theorem F.ok32 : okFn Try.prog 32 = true := by kernel_rfl
theorem F.ok38 : okFn Try.prog 38 = true := by kernel_rfl

theorem Whole_ok (M : Mem) (l : (Sl PeerV)) (r : Int) (all : (Sl (Sl HeldV))) (hl0 : SlK M PeerV.segs 21 l) (hall1 : SlK M (fun x => [Seg.one (Sl.val x)]) 1 all) (hall2 : ∀ y ∈ (all).l, SlK M HeldV.segs 24 y ∧ ∀ y1 ∈ (y).l, HeldV.ok M y1) : Esp.Fn Try.prog 13 [Sl.val l, .int .i64 r, Sl.val all] M (fun M' v => v = .bool (decide (wholeR l.l r (plss all.l)))) := by
  obtain ⟨l_a, l_c, l_l⟩ := l
  obtain ⟨all_a, all_c, all_l⟩ := all
  have k_l : SlK M PeerV.segs 21 ⟨l_a, l_c, l_l⟩ := hl0
  have s_l : SlM M l_a (l_l.map PeerV.segs) 21 := k_l.h1
  have n_l : (l_l.map PeerV.segs).length = l_l.length := List.length_map ..
  have m_l : l_l.length ≤ 9223372036854775807 := k_l.h2
  have c_l : l_l.length ≤ l_c := k_l.h3
  have k_all : SlK M (fun x => [Seg.one (Sl.val x)]) 1 ⟨all_a, all_c, all_l⟩ := hall1
  have s_all : SlM M all_a (all_l.map (fun x => [Seg.one (Sl.val x)])) 1 := k_all.h1
  have n_all : (all_l.map (fun x => [Seg.one (Sl.val x)])).length = all_l.length := List.length_map ..
  have m_all : all_l.length ≤ 9223372036854775807 := k_all.h2
  have c_all : all_l.length ≤ all_c := k_all.h3
  refine fn_enter Try.func13 rfl Try.ntmps13 rfl ?_; intro H
  refine C_seq ?_
  refine C_region (l := [0]) rfl ?_
  refine Y_assign ?_
  refine XD_end ?_
  refine K_then ?_
  iterate 2 refine C_seq ?_
  refine C_region (l := [0, 1, 2, 3, 4]) rfl ?_
  iterate 3 refine Y_move ?_
  refine X_fs rfl rfl F.ok28 rfl (right_ok _ ⟨l_a, l_c, l_l⟩ r ⟨all_a, all_c, all_l⟩ (by assumption) (by assumption) (by assumption)) rfl ?_
  rintro _ rfl
  refine Y_not ?_
  refine XD_end ?_
  refine K_then ?_
  refine Y_pk [20, 6, 0, 1, 2] ?_
  refine C_cond rfl (fun hc1 => ?_) (fun hc1 => ?_)
  ·replace hc1 := nT hc1
   simp only [AnswerV.eta, MarkV.eta, CellV.eta, HeldV.eta, PeerV.eta] at hc1
   refine C_seq ?_
   refine C_region (l := [0]) rfl ?_
   refine Y_assign ?_
   refine XD_end ?_
   refine K_then ?_
   refine Y_pk [6, 0, 1, 2] ?_
   refine C_ret ?_
   refine K_ret ?_
   refine K_end (.inr rfl) (.tmp rfl .nil) (fun w hw => ?_)
   refine ⟨_, M, rfl, Mem.le.refl M, hw.c, ?_⟩
   clear hw
   refine congrArg Value.bool ?_
   exact (decide_eq_false (fun h9 => absurd h9.1 (by assumption))).symm
  ·replace hc1 := nF hc1
   simp only [AnswerV.eta, MarkV.eta, CellV.eta, HeldV.eta, PeerV.eta] at hc1
   refine C_skip ?_
   refine K_then ?_
   refine Y_pk [6, 0, 1, 2] ?_
   iterate 2 refine C_seq ?_
   refine C_region (l := [0, 1, 2]) rfl ?_
   refine Y_move ?_
   refine Y_len_sl F.elem23 ?_
   refine Y_move ?_
   refine XD_end ?_
   refine K_then ?_
   refine C_block ?_
   refine Y_pk [23, 22, 21, 6, 0, 1, 2] ?_
   refine C_loopO (Hin := []) (.succ .zero) (by repeat first | exact Rem.here _ | exact Rem.two | apply Rem.skip | apply Rem.over) (fun (k : Nat) M1 h1 z => h1 = [] ∧ z = [(23, .int .i64 (k : Int))] ∧ k ≤ all_l.length ∧ ∀ i (hi : i < all_l.length), i < k → ∀ j (hj : j < all_l[i].l.length) n, n < all_l.length → W1 l_l r (plss all_l) (HeldV.pl all_l[i].l[j]) n) (fun k => all_l.length - k) (0) (⟨rfl, rfl, by omega, fun i hi h9 => by omega⟩) ?_
   rintro k M1 h1 z hm1 ⟨rfl, rfl, hk, hI⟩
   have s_all1 := s_all.mono hm1
   refine C_seq ?_
   refine C_region (l := [0]) rfl ?_
   refine Y_cmp ?_
   refine XD_end ?_
   refine K_then ?_
   refine C_seq ?_
   refine C_cond rfl (fun hc2 => ?_) (fun hc2 => ?_)
   ·replace hc2 := dT hc2
    refine C_skip ?_
    refine K_then ?_
    refine C_seq ?_
    refine C_block ?_
    refine C_seq ?_
    refine C_region (l := [0, 1, 2]) rfl ?_
    refine X_indexAddr rfl rfl rfl rfl F.elem23 (by rfl) (by omega) (by exact SlM.plain (by assumption) (by (simp; omega))) rfl ?_
    refine X_load_el rfl rfl rfl (by assumption) (by exact row_map (by omega)) F.lay31 rfl rfl rfl ?_
    obtain ⟨⟨q_a, q_c, q_l⟩, hq⟩ : ∃ q, all_l[k]'(by omega) = q := ⟨_, rfl⟩
    rw [hq]
    have hqm : (⟨q_a, q_c, q_l⟩ : Sl HeldV) ∈ all_l := by rw [← hq]; exact List.getElem_mem (by omega)
    obtain ⟨k_q, l_q⟩ := hall2 _ hqm
    try simp only at l_q
    have s_q1 := k_q.h1.mono hm1
    try simp only at s_q1
    have m_q : q_l.length ≤ 9223372036854775807 := k_q.h2
    have n_q : (q_l.map HeldV.segs).length = q_l.length := List.length_map ..
    refine Y_assign ?_
    refine XD_end ?_
    refine K_then ?_
    refine C_seq ?_
    refine C_region (l := [0, 1, 2]) rfl ?_
    refine Y_move ?_
    refine Y_len_sl F.elem31 ?_
    refine Y_move ?_
    refine XD_end ?_
    refine K_then ?_
    refine C_block ?_
    refine Y_pk [29, 28, 27, 8, 26, 25, 24, 23, 22, 21, 6, 0, 1, 2] ?_
    refine C_loopO (Hin := []) (.succ .zero) (by repeat first | exact Rem.here _ | exact Rem.two | apply Rem.skip | apply Rem.over) (fun (j : Nat) M2 h2 z => h2 = [] ∧ z = [(29, .int .i64 (j : Int))] ∧ j ≤ q_l.length ∧ ∀ j2 (hj : j2 < q_l.length), j2 < j → ∀ n, n < all_l.length → W1 l_l r (plss all_l) (HeldV.pl q_l[j2]) n) (fun j => q_l.length - j) (0) (⟨rfl, rfl, by omega, fun i hi h9 => by omega⟩) ?_
    rintro j M2 h2 z hm2 ⟨rfl, rfl, hj, hI1⟩
    have s_q2 := s_q1.mono hm2
    try simp only at s_q2
    have hmm := hm1.trans hm2
    refine C_seq ?_
    refine C_region (l := [0]) rfl ?_
    refine Y_cmp ?_
    refine XD_end ?_
    refine K_then ?_
    refine C_seq ?_
    refine C_cond rfl (fun hc3 => ?_) (fun hc3 => ?_)
    ·replace hc3 := dT hc3
     refine C_skip ?_
     refine K_then ?_
     refine C_seq ?_
     refine C_block ?_
     refine C_seq ?_
     refine C_region (l := [0, 1, 2, 3]) rfl ?_
     refine X_indexAddr rfl rfl rfl rfl F.elem31 (by rfl) (by omega) (by exact SlM.plain (by assumption) (by (simp; omega))) rfl ?_
     refine X_load_el rfl rfl rfl (by assumption) (by exact row_map (by omega)) F.lay49 rfl rfl rfl ?_
     refine Y_alloc F.zero49 ?_; intro b4
     refine Y_store F.lay49 ?_
     refine XD_end ?_
     refine K_then ?_
     refine C_seq ?_
     refine C_region (l := [0, 1, 2, 3, 4, 5]) rfl ?_
     iterate 2 refine Y_move ?_
     refine Y_fieldAddr F.foff49_0 ?_
     refine Y_load F.lay33 ?_
     refine X_fn rfl rfl F.ok32 rfl (keepers_ok _ ⟨l_a, l_c, l_l⟩ r q_l[j].key (k_l.mono (by assumption))) rfl ?_
     rintro _ M3 hm3 ⟨⟨c_a, c_c, c_l⟩, rfl, hcl, k_c⟩
     try simp only at hcl
     have m_c : c_l.length ≤ 9223372036854775807 := k_c.h2
     have n_c : (c_l.map (oneI .i64)).length = c_l.length := List.length_map ..
     refine Y_assign ?_
     refine XD_end ?_
     refine K_then ?_
     refine C_seq ?_
     refine C_region (l := [0, 1, 2]) rfl ?_
     refine Y_move ?_
     refine Y_len_sl F.elem23 ?_
     refine Y_move ?_
     refine XD_end ?_
     refine K_then ?_
     refine C_block ?_
     refine Y_pk [40, 39, 38, 11, 37, 36, 35, 34, 33, 10, 32, 31, 30, 29, 28, 27, 8, 26, 25, 24, 23, 22, 21, 6, 0, 1, 2] ?_
     refine C_loopO (Hin := []) (.succ .zero) (by repeat first | exact Rem.here _ | exact Rem.two | apply Rem.skip | apply Rem.over) (fun (n : Nat) M4 h4 z => M4 = M3 ∧ h4 = [] ∧ z = [(40, .int .i64 (n : Int))] ∧ n ≤ all_l.length ∧ ∀ n2, n2 < n → W1 l_l r (plss all_l) (HeldV.pl q_l[j]) n2) (fun n => all_l.length - n) (0) (⟨rfl, rfl, rfl, by omega, fun n2 h9 => by omega⟩) ?_
     rintro n M4 h4 z hm4 ⟨hM4, rfl, rfl, hn, hI2⟩
     subst M4
     have hmm3 := hmm.trans hm3
     have s_all4 := s_all.mono hmm3
     have s_c4 := k_c.h1
     refine C_seq ?_
     refine C_region (l := [0]) rfl ?_
     refine Y_cmp ?_
     refine XD_end ?_
     refine K_then ?_
     refine C_seq ?_
     refine C_cond rfl (fun hc5 => ?_) (fun hc5 => ?_)
     ·replace hc5 := dT hc5
      refine C_skip ?_
      refine K_then ?_
      refine C_seq ?_
      refine C_block ?_
      refine C_seq ?_
      refine C_region (l := [0, 1, 2, 3, 4]) rfl ?_
      refine Y_move ?_
      refine X_indexAddr rfl rfl rfl rfl F.elem23 (by rfl) (by omega) (by exact SlM.plain (by assumption) (by (simp; omega))) rfl ?_
      refine X_load_el rfl rfl rfl (by assumption) (by exact row_map (by omega)) F.lay31 rfl rfl rfl ?_
      obtain ⟨⟨t_a, t_c, t_l⟩, ht⟩ : ∃ t, all_l[n]'(by omega) = t := ⟨_, rfl⟩
      rw [ht]
      have htm : (⟨t_a, t_c, t_l⟩ : Sl HeldV) ∈ all_l := by rw [← ht]; exact List.getElem_mem (by omega)
      obtain ⟨k_t, l_t⟩ := hall2 _ htm
      try simp only at l_t
      iterate 2 refine Y_assign ?_
      refine XD_end ?_
      refine K_then ?_
      refine C_seq ?_
      refine C_region (l := [0, 1, 2, 3, 4, 5, 6, 7, 8, 9]) rfl ?_
      refine Y_move ?_
      refine Y_fieldAddr F.foff49_0 ?_
      refine Y_load F.lay33 ?_
      refine X_fs rfl rfl F.ok17 rfl (Find_ok _ ⟨t_a, t_c, t_l⟩ q_l[j].key (k_t.mono hmm3) (fun y hy => (l_t y hy).mono (by assumption))) rfl ?_
      rintro _ hv
      obtain ⟨⟨xc, xb⟩, hx⟩ : ∃ r, findX t_l q_l[j].key = r := ⟨_, rfl⟩
      replace hv : _ = findXv (findX t_l q_l[j].key) := hv
      rw [hx] at hv
      subst hv
      have hx9 : findX (all_l[n]'(by omega)).l q_l[j].key = (xc, xb) := by rw [ht]; exact hx
      have hW := W1_iff (l := l_l) (r := r) (A := all_l) (h := q_l[j]) (by omega) hx9
      obtain ⟨x_v, x_h, x_s, ⟨x_a, x_c, x_l⟩⟩ := xc
      refine Y_move ?_
      iterate 2 refine Y_extract ?_
      refine Y_alloc F.zero37 ?_; intro b6
      refine Y_store F.lay37 ?_
      refine Y_assign ?_
      refine XD_end ?_
      refine K_then ?_
      refine C_seq ?_
      have okx : xb = true → CellV.ok M3 ⟨x_v, x_h, x_s, ⟨x_a, x_c, x_l⟩⟩ := fun hb => by
       obtain ⟨y, g1, g2, g3⟩ := findX_mem (l := t_l) (k := q_l[j].key) (by rw [hx]; exact hb)
       rw [hx] at g3
       have := ((l_t y g1).mono hmm3).h0
       rw [g3] at this
       exact this
      refine C_region (l := [0, 1, 2, 3, 4, 5, 6, 7, 8, 9, 10, 11, 12, 13, 14]) rfl ?_
      iterate 3 refine Y_move ?_
      refine X_fs rfl rfl F.ok37 rfl (ContainsI_ok _ ⟨c_a, c_c, c_l⟩ (n : Int) k_c.h1 m_c) rfl ?_
      rintro _ rfl
      refine X_eqb rfl rfl rfl rfl rfl Try.underlying4 rfl ?_
      refine Y_move ?_
      refine XD_part 57 rfl (fun hc7 => ?_) (fun hc7 => ?_)
      ·replace hc7 := nT hc7
       simp only [AnswerV.eta, MarkV.eta, CellV.eta, HeldV.eta, PeerV.eta] at hc7
       iterate 8 refine Y_skip ?_
       refine Y_pick ?_
       refine XD_end ?_
       refine K_then ?_
       refine C_true rfl ?_
       refine C_seq ?_
       refine C_region (l := [0]) rfl ?_
       refine Y_assign ?_
       refine XD_end ?_
       refine K_then ?_
       refine C_ret ?_
       refine K_retB ?_
       iterate 2 refine K_ret ?_
       iterate 2 refine K_retB ?_
       iterate 2 refine K_ret ?_
       iterate 2 refine K_retB ?_
       iterate 2 refine K_ret ?_
       refine K_retB ?_
       refine K_ret ?_
       refine K_end (.inr rfl) (.tmp rfl .nil) (fun w hw => ?_)
       refine ⟨_, M3, rfl, hmm3, hw.c, ?_⟩
       clear hw
       refine congrArg Value.bool ?_
       refine (decide_eq_false (fun h9 => ?_)).symm
       refine wholeW_no (i := k) (j := j) (n := n) (show k < all_l.length by omega) (by rw [hq]; show j < q_l.length; omega) (fun h8 => ?_) h9.2
       have e9 := congrArg Sl.l hq
       simp only at e9
       simp only [e9] at h8
       obtain ⟨g1, g2⟩ := hW.1 h8
       unfold keepsR at g1
       rw [← hcl] at g1
       simp_all [CellV.pl]
      ·replace hc7 := nF hc7
       simp only [AnswerV.eta, MarkV.eta, CellV.eta, HeldV.eta, PeerV.eta] at hc7
       iterate 2 refine Y_move ?_
       refine XD_part 59 rfl (fun hc8 => ?_) (fun hc8 => ?_)
       ·skip
        simp only [AnswerV.eta, MarkV.eta, CellV.eta, HeldV.eta, PeerV.eta] at hc8
        refine Y_load F.lay37 ?_
        refine Y_fieldAddr F.foff49_1 ?_
        refine Y_load F.lay37 ?_
        refine X_fs rfl rfl F.ok38 rfl (SameSp_ok _ ⟨x_v, x_h, x_s, ⟨x_a, x_c, x_l⟩⟩ q_l[j].cell (okx (by assumption)) ((l_q _ (List.getElem_mem (by omega))).h0.mono hmm3)) rfl ?_
        rintro _ rfl
        refine Y_not ?_
        iterate 2 refine Y_pick ?_
        refine XD_end ?_
        refine K_then ?_
        refine C_cond rfl (fun hc9 => ?_) (fun hc9 => ?_)
        ·replace hc9 := nT hc9
         refine C_seq ?_
         refine C_region (l := [0]) rfl ?_
         refine Y_assign ?_
         refine XD_end ?_
         refine K_then ?_
         refine C_ret ?_
         refine K_retB ?_
         iterate 2 refine K_ret ?_
         iterate 2 refine K_retB ?_
         iterate 2 refine K_ret ?_
         iterate 2 refine K_retB ?_
         iterate 2 refine K_ret ?_
         refine K_retB ?_
         refine K_ret ?_
         refine K_end (.inr rfl) (.tmp rfl .nil) (fun w hw => ?_)
         refine ⟨_, M3, rfl, hmm3, hw.c, ?_⟩
         clear hw
         refine congrArg Value.bool ?_
         refine (decide_eq_false (fun h9 => ?_)).symm
         refine wholeW_no (i := k) (j := j) (n := n) (show k < all_l.length by omega) (by rw [hq]; show j < q_l.length; omega) (fun h8 => ?_) h9.2
         have e9 := congrArg Sl.l hq
         simp only at e9
         simp only [e9] at h8
         obtain ⟨g1, g2⟩ := hW.1 h8
         unfold keepsR at g1
         rw [← hcl] at g1
         simp_all [CellV.pl]
        ·replace hc9 := nF hc9
         refine C_skip ?_
         refine K_out ?_
         refine K_then ?_
         refine C_region (l := [0, 1]) rfl ?_
         refine X_ari rfl rfl rfl rfl rfl (by exact wrap_in (by decide) (by omega)) rfl ?_
         refine Y_move ?_
         refine XD_end ?_
         refine K_roundO (a' := [(40, _)]) (n + 1) ([]) (.cons (k := 40) rfl (.cons (k := 39) rfl (.cons (k := 38) rfl (.cons (k := 11) rfl (.cons (k := 37) rfl (.cons (k := 36) rfl (.cons (k := 35) rfl (.cons (k := 34) rfl (.cons (k := 33) rfl (.cons (k := 10) rfl (.cons (k := 32) rfl (.cons (k := 31) rfl (.cons (k := 30) rfl (.cons (k := 29) rfl (.cons (k := 28) rfl (.cons (k := 27) rfl (.cons (k := 8) rfl (.cons (k := 26) rfl (.cons (k := 25) rfl (.cons (k := 24) rfl (.cons (k := 23) rfl (.cons (k := 22) rfl (.cons (k := 21) rfl (.cons (k := 6) rfl (.cons (k := 0) rfl (.cons (k := 1) rfl (.cons (k := 2) rfl (.nil)))))))))))))))))))))))))))) (by exact Mem.le.refl _) (fun w hw => by first | exact hw | exact hw.c) ?_ ?_
         ·refine ⟨rfl, rfl, rfl, by omega, fun n2 h9 => ?_⟩
          rcases Nat.lt_or_ge n2 n with h8 | h8
          ·exact hI2 n2 h8
          ·have hik : n2 = n := by omega
           subst hik
           refine hW.2 ⟨?_, ?_⟩
           ·unfold keepsR; rw [← hcl]; simp_all
           ·simp_all [CellV.pl]
         ·omega
       ·skip
        simp only [AnswerV.eta, MarkV.eta, CellV.eta, HeldV.eta, PeerV.eta] at hc8
        iterate 5 refine Y_skip ?_
        iterate 2 refine Y_pick ?_
        refine XD_end ?_
        refine K_then ?_
        refine C_false rfl ?_
        refine C_skip ?_
        refine K_out ?_
        refine K_then ?_
        refine C_region (l := [0, 1]) rfl ?_
        refine X_ari rfl rfl rfl rfl rfl (by exact wrap_in (by decide) (by omega)) rfl ?_
        refine Y_move ?_
        refine XD_end ?_
        refine K_roundO (a' := [(40, _)]) (n + 1) ([]) (.cons (k := 40) rfl (.cons (k := 39) rfl (.cons (k := 38) rfl (.cons (k := 11) rfl (.cons (k := 37) rfl (.cons (k := 36) rfl (.cons (k := 35) rfl (.cons (k := 34) rfl (.cons (k := 33) rfl (.cons (k := 10) rfl (.cons (k := 32) rfl (.cons (k := 31) rfl (.cons (k := 30) rfl (.cons (k := 29) rfl (.cons (k := 28) rfl (.cons (k := 27) rfl (.cons (k := 8) rfl (.cons (k := 26) rfl (.cons (k := 25) rfl (.cons (k := 24) rfl (.cons (k := 23) rfl (.cons (k := 22) rfl (.cons (k := 21) rfl (.cons (k := 6) rfl (.cons (k := 0) rfl (.cons (k := 1) rfl (.cons (k := 2) rfl (.nil)))))))))))))))))))))))))))) (by exact Mem.le.refl _) (fun w hw => by first | exact hw | exact hw.c) ?_ ?_
        ·refine ⟨rfl, rfl, rfl, by omega, fun n2 h9 => ?_⟩
         rcases Nat.lt_or_ge n2 n with h8 | h8
         ·exact hI2 n2 h8
         ·have hik : n2 = n := by omega
          subst hik
          refine hW.2 ⟨?_, ?_⟩
          ·unfold keepsR; rw [← hcl]; simp_all
          ·simp_all [CellV.pl]
        ·omega
     ·replace hc5 := dF hc5
      refine C_exit ?_
      iterate 2 refine K_exit ?_
      refine K_hit ?_
      refine K_out ?_
      refine K_then ?_
      refine C_region (l := [0, 1]) rfl ?_
      refine X_ari rfl rfl rfl rfl rfl (by exact wrap_in (by decide) (by omega)) rfl ?_
      refine Y_move ?_
      refine XD_end ?_
      refine K_roundO (a' := [(29, _)]) (j + 1) ([]) (.cons (k := 29) rfl (.cons (k := 28) rfl (.cons (k := 27) rfl (.cons (k := 8) rfl (.cons (k := 26) rfl (.cons (k := 25) rfl (.cons (k := 24) rfl (.cons (k := 23) rfl (.cons (k := 22) rfl (.cons (k := 21) rfl (.cons (k := 6) rfl (.cons (k := 0) rfl (.cons (k := 1) rfl (.cons (k := 2) rfl (.nil))))))))))))))) (hm2.trans hm3) (fun w hw => by first | exact hw | exact hw.c) ?_ ?_
      ·refine ⟨rfl, rfl, by omega, fun j2 hj2 h9 => ?_⟩
       rcases Nat.lt_or_ge j2 j with h8 | h8
       ·exact hI1 j2 hj2 h8
       ·have hik : j2 = j := by omega
        subst hik
        exact fun n2 hn2 => hI2 n2 (by omega)
      ·omega
    ·replace hc3 := dF hc3
     refine C_exit ?_
     iterate 2 refine K_exit ?_
     refine K_hit ?_
     refine K_out ?_
     refine K_then ?_
     refine C_region (l := [0, 1]) rfl ?_
     refine X_ari rfl rfl rfl rfl rfl (by exact wrap_in (by decide) (by omega)) rfl ?_
     refine Y_move ?_
     refine XD_end ?_
     refine K_roundO (a' := [(23, _)]) (k + 1) ([]) (.cons (k := 23) rfl (.cons (k := 22) rfl (.cons (k := 21) rfl (.cons (k := 6) rfl (.cons (k := 0) rfl (.cons (k := 1) rfl (.cons (k := 2) rfl (.nil)))))))) (hm1.trans hm2) (fun w hw => by first | exact hw | exact hw.c) ?_ ?_
     ·refine ⟨rfl, rfl, by omega, fun i hi h9 => ?_⟩
      rcases Nat.lt_or_ge i k with h8 | h8
      ·exact hI i hi h8
      ·have hik : i = k := by omega
       subst hik
       intro j2 hj2 n hn9
       have e9 := congrArg Sl.l hq
       simp only at e9
       have hj3 : j2 < q_l.length := by rw [← e9]; exact hj2
       have := hI1 j2 hj3 (by omega) n hn9
       simpa only [e9] using this
     ·omega
   ·replace hc2 := dF hc2
    refine C_exit ?_
    iterate 2 refine K_exit ?_
    refine K_hit ?_
    refine K_then ?_
    refine Y_pk [6] ?_
    refine C_seq ?_
    refine C_region (l := [0]) rfl ?_
    refine Y_assign ?_
    refine XD_end ?_
    refine K_then ?_
    refine C_ret ?_
    refine K_end (.inr rfl) (.tmp rfl .nil) (fun w hw => ?_)
    refine ⟨_, M1, rfl, hm1, hw.c, ?_⟩
    clear hw
    refine congrArg Value.bool ?_
    refine (decide_eq_true ⟨by assumption, wholeW_yes fun i hi j hj n hn9 => ?_⟩).symm
    obtain rfl : k = all_l.length := by omega
    exact hI i hi hi j hj n hn9

end Go.Proofs.Ytbafnjniijodfaa
/-
  A row of stores of our own, each in its own place; who gets what.
-/
set_option linter.unusedSimpArgs false
set_option linter.unusedVariables false
set_option linter.unnecessarySimpa false
namespace Go.Esp
structure OwnS where
  v : Value
  hs : Hp
  l : List HeldV
def famH : List OwnS → Hp
  | [] => []
  | x :: xs => x.hs ++ famH xs
theorem famH_split : ∀ {xs : List OwnS} {i : Nat} (hi : i < xs.length), ∃ A B, famH xs = A ++ (xs[i].hs ++ B) ∧ ∀ y, famH (xs.set i y) = A ++ (y.hs ++ B)
  | x :: xs, 0, _ => ⟨[], famH xs, rfl, fun y => rfl⟩
  | x :: xs, i + 1, hi => by
    obtain ⟨A, B, h1, h2⟩ := famH_split (xs := xs) (i := i) (by simpa using hi)
    refine ⟨x.hs ++ A, B, ?_, fun y => ?_⟩
    · show x.hs ++ famH xs = _
      rw [h1]; simp
    · show x.hs ++ famH (xs.set i y) = _
      rw [h2]; simp
theorem famH_none (n : Nat) : famH (List.replicate n ⟨.slice none 0 0, [], []⟩) = [] := by
  induction n with
  | zero => rfl
  | succ n ih => rw [List.replicate_succ]; exact ih
/-- Rows of ours, just so. -/
structure FamI (T n : Nat) (xs : List OwnS) (g : Nat → List HeldV) : Prop where
  len : xs.length = n
  ok : ∀ x ∈ xs, OSl T 24 x.v x.hs (x.l.map HeldV.segs)
  is : ∀ i (hi : i < xs.length), xs[i].l = g i
theorem FamI.none (T n : Nat) {g : Nat → List HeldV} (hg : ∀ i, i < n → g i = []) : FamI T n (List.replicate n ⟨.slice none 0 0, [], []⟩) g :=
  ⟨by simp, fun x hx => by rw [List.eq_of_mem_replicate hx]; exact OSl.nil, fun i hi => by rw [List.getElem_replicate]; exact (hg i (by simpa using hi)).symm⟩
theorem FamI.congr {T n : Nat} {xs : List OwnS} {g g' : Nat → List HeldV} (h : FamI T n xs g) (e : ∀ i, i < n → g i = g' i) : FamI T n xs g' :=
  ⟨h.len, h.ok, fun i hi => (h.is i hi).trans (e i (by rw [← h.len]; exact hi))⟩
theorem FamI.pick {T n : Nat} {xs : List OwnS} {g : Nat → List HeldV} (h : FamI T n xs g) {i0 : Nat} (hi : i0 < n) : ∃ (v : Value) (hs : Hp) (A B : Hp), (xs.map fun x => ([.one x.v] : Segs))[i0]? = some [.one v] ∧ OSl T 24 v hs ((g i0).map HeldV.segs) ∧ famH xs = A ++ (hs ++ B) ∧
    ∀ v' hs' q, OSl T 24 v' hs' ((g i0 ++ [q]).map HeldV.segs) → ∃ xs', FamI T n xs' (fun i => if i = i0 then g i ++ [q] else g i) ∧ famH xs' = A ++ (hs' ++ B) ∧ (xs.map fun x => ([.one x.v] : Segs)).set i0 [.one v'] = xs'.map fun x => [.one x.v] := by
  have hx : i0 < xs.length := by rw [h.len]; exact hi
  obtain ⟨A, B, h1, h2⟩ := famH_split hx
  refine ⟨xs[i0].v, xs[i0].hs, A, B, by simp [hx], ?_, h1, fun v' hs' q ho => ⟨xs.set i0 ⟨v', hs', g i0 ++ [q]⟩, ⟨by simp [h.len], fun x hm => ?_, fun i hi2 => ?_⟩, h2 _, ?_⟩⟩
  · rw [← h.is i0 hx]; exact h.ok _ (List.getElem_mem hx)
  · rcases List.mem_or_eq_of_mem_set hm with hm | rfl
    · exact h.ok x hm
    · exact ho
  · rw [List.getElem_set]
    by_cases e : i0 = i
    · subst e; simp
    · rw [if_neg e, if_neg (fun e' => e e'.symm)]
      exact h.is i (by simpa using hi2)
  · rw [List.map_set]
theorem fam_freeze {T : Nat} : ∀ {xs : List OwnS} {M : Mem} {H : Hp} {w : World}, (∀ x ∈ xs, OSl T 24 x.v x.hs (x.l.map HeldV.segs)) → St M (famH xs ++ H) w →
    ∃ (M' : Mem) (ss : List (Sl HeldV)), M.le M' ∧ St M' H w ∧ ss.map (fun s => s.l) = xs.map (fun x => x.l) ∧ ss.map Sl.val = xs.map (fun x => x.v) ∧ ∀ s ∈ ss, SlK M' HeldV.segs 24 s
  | [], M, H, w, _, hw => ⟨M, [], Mem.le.refl M, hw, rfl, rfl, fun s hs => by cases hs⟩
  | x :: xs, M, H, w, ho, hw => by
    have hw1 : St M (x.hs ++ (famH xs ++ H)) w := by rw [← List.append_assoc]; exact hw
    obtain ⟨M1, s1, g1, g2, g3, g4, g5⟩ := (ho x (.head _)).freezeK hw1
    obtain ⟨M2, ss, k1, k2, k3, k4, k5⟩ := fam_freeze (fun y hy => ho y (.tail _ hy)) g2
    refine ⟨M2, s1 :: ss, g1.trans k1, k2, by simp [g4, k3], by simp [← g3, k4], fun s hs => ?_⟩
    rcases List.mem_cons.1 hs with rfl | hs
    · exact g5.mono k1
    · exact k5 s hs
/-! Copies lie in the circle, each one once. -/
theorem mod_two {n x : Nat} (h : x < 2 * n) : x % n = if x < n then x else x - n := by
  split
  · exact Nat.mod_eq_of_lt (by assumption)
  · rw [Nat.mod_eq_sub_mod (by omega), Nat.mod_eq_of_lt (by omega)]
theorem copies_at {l : List PeerV} {x : Plc} {r : Int} (h : IsCircle l) (hr : 1 ≤ r ∧ r ≤ 8) {c : List Int} (hc : c = (copiesR l x r).1) :
    c.Nodup ∧ ∀ j (hj : j < c.length), ∃ i : Nat, c[j] = (i : Int) ∧ i < l.length := by
  obtain ⟨rn, rfl⟩ : ∃ n : Nat, r = n := ⟨r.toNat, by omega⟩
  rw [copiesR_yes h (by omega) (by omega)] at hc
  simp only at hc
  have hl := h.1
  have ho : ownerI l x < l.length := ownerI_lt (by omega)
  subst hc
  constructor
  · refine List.pairwise_map.2 (List.Pairwise.imp_of_mem ?_ (List.nodup_range (n := min rn l.length)))
    intro a b ha hb hab e
    rw [List.mem_range] at ha hb
    apply hab
    have e' : (ownerI l x + a) % l.length = (ownerI l x + b) % l.length := by exact_mod_cast e
    rw [mod_two (by omega), mod_two (by omega)] at e'
    split at e' <;> split at e' <;> omega
  · intro j hj
    rw [List.getElem_map]
    exact ⟨_, rfl, Nat.mod_lt _ (by omega)⟩
/-- What of a row one keeps. -/
def filt (l : List PeerV) (r : Int) (i : Nat) (S : List HeldV) : List HeldV := S.filter fun h => keepsR l r (i : Int) h.key
theorem filt_pls {l : List PeerV} {r : Int} {i : Nat} {S : List HeldV} : pls (filt l r i S) = (pls S).filter fun h => keepsR l r (i : Int) h.key := by
  unfold pls filt
  rw [List.filter_map]; rfl
theorem filt_len {l : List PeerV} {r : Int} {i : Nat} {S : List HeldV} : (filt l r i S).length ≤ S.length := List.length_filter_le ..
def gainG (l : List PeerV) (r : Int) (S : List HeldV) (k : Nat) (c : List Int) (h : HeldV) (i : Nat) : List HeldV := filt l r i (S.take k) ++ if (i : Int) ∈ c then [h] else []
theorem gain_nil {l : List PeerV} {r : Int} {S : List HeldV} {k : Nat} {h : HeldV} (i : Nat) : filt l r i (S.take k) = gainG l r S k [] h i := by simp [gainG]
theorem gain_step {l : List PeerV} {r : Int} {S : List HeldV} {k j : Nat} {c : List Int} {h : HeldV} {i0 : Nat} (hn : c.Nodup) (hj : j < c.length) (e : c[j] = (i0 : Int)) (i : Nat) :
    (if i = i0 then gainG l r S k (c.take j) h i ++ [h] else gainG l r S k (c.take j) h i) = gainG l r S k (c.take (j + 1)) h i := by
  have h9 : (i0 : Int) ∉ c.take j := fun hm => by
    rw [List.mem_take_iff_getElem] at hm
    obtain ⟨a, ha, he⟩ := hm
    exact (List.pairwise_iff_getElem.1 hn) a j (by omega) hj (by omega) (he.trans e.symm)
  unfold gainG
  by_cases hi : i = i0
  · subst hi
    rw [if_pos rfl, if_neg h9, if_pos (by rw [List.take_add_one, List.getElem?_eq_getElem hj, e]; simp)]
    simp
  · rw [if_neg hi]
    have : ((i : Int) ∈ c.take (j + 1)) ↔ (i : Int) ∈ c.take j := by
      rw [List.take_add_one, List.getElem?_eq_getElem hj, e]
      simp only [Option.toList_some, List.mem_append, List.mem_singleton]
      constructor
      · rintro (h | h)
        · exact h
        · exact absurd (by exact_mod_cast h) hi
      · exact .inl
    simp only [this]
theorem gain_end {l : List PeerV} {r : Int} {S : List HeldV} {k : Nat} (hk : k < S.length) {c : List Int} (hc : c = (copiesR l S[k].key r).1) (i : Nat) : gainG l r S k c S[k] i = filt l r i (S.take (k + 1)) := by
  unfold gainG filt
  rw [List.take_add_one, List.getElem?_eq_getElem hk, List.filter_append]
  congr 1
  simp only [Option.toList_some, List.filter_cons, List.filter_nil]
  unfold keepsR
  rw [← hc]
  by_cases h : (i : Int) ∈ c <;> simp [h]
theorem gain_len {l : List PeerV} {r : Int} {S : List HeldV} {k : Nat} {c : List Int} {h : HeldV} {i : Nat} (hk : k ≤ 2000) : (gainG l r S k c h i).length ≤ 2001 := by
  unfold gainG
  have h1 : (filt l r i (S.take k)).length ≤ k := Nat.le_trans filt_len (by rw [List.length_take]; omega)
  rw [List.length_append]
  split <;> simp <;> omega
/-- Healed stores handed back. -/
theorem AllE.healed {M M' : Mem} {l : List PeerV} {r : Int} {all : List (List Hd)} {S : List HeldV} {ss : List (Sl HeldV)} {xs : List OwnS} {T : Nat} {a : Option Addr} {c : Nat} (hc : CircSt l r all) (hS : pls S = ofS mergedT all) (hn : ¬ 2000 < S.length) (hx : FamI T l.length xs fun i => filt l r i S) (hs : ss.map (fun s => s.l) = xs.map (fun x => x.l))
    (hk : SlK M' (fun x => [.one (Sl.val x)]) 1 (⟨a, c, ss⟩ : Sl (Sl HeldV))) (hss : ∀ s ∈ ss, SlK M' HeldV.segs 24 s) (hok : ∀ h ∈ S, HeldV.ok M h) (hm : M.le M') : AllE M' (.tuple #[(⟨a, c, ss⟩ : Sl (Sl HeldV)).val, .int .i64 0]) (healR l r all) := by
  have he : healR l r all = ((List.range l.length).map fun i : Nat => (ofS mergedT all).filter fun h => keepsR l r (i : Int) h.key, 0) := by
    unfold healR
    rw [if_pos hc, if_neg (by rw [← hS, pls_len]; exact hn)]
  rw [he]
  have hat : ∀ i (hi : i < ss.length), ss[i].l = filt l r i S := fun i hi => by
    have hl : ss.length = xs.length := by have := congrArg List.length hs; simpa using this
    have h1 : (ss.map (fun s => s.l))[i]'(by simpa using hi) = (xs.map (fun x => x.l))[i]'(by simpa using (hl ▸ hi)) := by congr 1
    rw [List.getElem_map, List.getElem_map] at h1
    rw [h1]; exact hx.is i _
  refine ⟨⟨a, c, ss⟩, rfl, ?_, hk, fun y hy => ⟨hss y hy, fun h hh => ?_⟩⟩
  · refine List.ext_getElem ?_ fun i h1 h2 => ?_
    · have hl : ss.length = xs.length := by have := congrArg List.length hs; simpa using this
      rw [plss_len, List.length_map, List.length_range, hl, hx.len]
    · have h1' : i < ss.length := by rw [plss_len] at h1; exact h1
      rw [plss_at h1', hat i h1', filt_pls, hS, List.getElem_map, List.getElem_range]
  · obtain ⟨i, hi, rfl⟩ := List.getElem_of_mem hy
    rw [hat i hi] at hh
    exact (hok h ((List.mem_filter.1 hh).1)).mono hm
end Go.Esp
/-
  Stores healed by the program.
-/
set_option linter.unusedSimpArgs false
set_option linter.unusedVariables false
set_option linter.unnecessarySimpa false
set_option maxRecDepth 8000
set_option maxHeartbeats 1000000
namespace Go.Proofs.Ytbafnjniijodfaa
open Go.Esp


theorem Heal_ok (M : Mem) (l : (Sl PeerV)) (r : Int) (all : (Sl (Sl HeldV))) (hl0 : SlK M PeerV.segs 21 l) (hall1 : SlK M (fun x => [Seg.one (Sl.val x)]) 1 all) (hall2 : ∀ y ∈ (all).l, SlK M HeldV.segs 24 y ∧ ∀ y1 ∈ (y).l, HeldV.ok M y1) : Esp.Fn Try.prog 9 [Sl.val l, .int .i64 r, Sl.val all] M (fun M' v => AllE M' v (healR l.l r (plss all.l))) := by
  obtain ⟨l_a, l_c, l_l⟩ := l
  obtain ⟨all_a, all_c, all_l⟩ := all
  have k_l : SlK M PeerV.segs 21 ⟨l_a, l_c, l_l⟩ := hl0
  have s_l : SlM M l_a (l_l.map PeerV.segs) 21 := k_l.h1
  have n_l : (l_l.map PeerV.segs).length = l_l.length := List.length_map ..
  have m_l : l_l.length ≤ 9223372036854775807 := k_l.h2
  have c_l : l_l.length ≤ l_c := k_l.h3
  have k_all : SlK M (fun x => [Seg.one (Sl.val x)]) 1 ⟨all_a, all_c, all_l⟩ := hall1
  have s_all : SlM M all_a (all_l.map (fun x => [Seg.one (Sl.val x)])) 1 := k_all.h1
  have n_all : (all_l.map (fun x => [Seg.one (Sl.val x)])).length = all_l.length := List.length_map ..
  have m_all : all_l.length ≤ 9223372036854775807 := k_all.h2
  have c_all : all_l.length ≤ all_c := k_all.h3
  show Esp.Fn _ _ _ _ (fun M' v => AllE M' v (healR l_l r (plss all_l)))
  refine fn_enter Try.func9 rfl Try.ntmps9 rfl ?_; intro H
  refine C_seq ?_
  refine C_region (l := [0, 1]) rfl ?_
  iterate 2 refine Y_assign ?_
  refine XD_end ?_
  refine K_then ?_
  iterate 2 refine C_seq ?_
  refine C_region (l := [0, 1, 2, 3, 4]) rfl ?_
  iterate 3 refine Y_move ?_
  refine X_fs rfl rfl F.ok28 rfl (right_ok _ ⟨l_a, l_c, l_l⟩ r ⟨all_a, all_c, all_l⟩ (by assumption) (by assumption) (by assumption)) rfl ?_
  rintro _ rfl
  refine Y_not ?_
  refine XD_end ?_
  refine K_then ?_
  refine Y_pk [19, 7, 6, 0, 1, 2] ?_
  refine C_cond rfl (fun hc1 => ?_) (fun hc1 => ?_)
  ·replace hc1 := nT hc1
   simp only [AnswerV.eta, MarkV.eta, CellV.eta, HeldV.eta, PeerV.eta] at hc1
   refine C_seq ?_
   refine C_region (l := [0, 1]) rfl ?_
   iterate 2 refine Y_assign ?_
   refine XD_end ?_
   refine K_then ?_
   refine Y_pk [7, 6, 0, 1, 2] ?_
   refine C_ret ?_
   refine K_ret ?_
   refine K_end (.inr rfl) (.tmp rfl (.tmp rfl .nil)) (fun w hw => ?_)
   refine ⟨_, M, rfl, Mem.le.refl M, hw.c, ?_⟩
   rw [show healR l_l r (plss all_l) = ([], 1) from if_neg (by assumption)]
   exact AllE.nil
  ·replace hc1 := nF hc1
   simp only [AnswerV.eta, MarkV.eta, CellV.eta, HeldV.eta, PeerV.eta] at hc1
   refine C_skip ?_
   refine K_then ?_
   refine Y_pk [7, 6, 0, 1, 2] ?_
   refine C_seq ?_
   have hcs : CircSt l_l r (plss all_l) := by assumption
   have hl9 : l_l.length ≤ 16 := hcs.1.1.2
   have hcel : ∀ s ∈ all_l, ∀ h ∈ s.l, IsCel h.cell.pl := fun s hs h hh => (hcs.2.2.2 _ (List.mem_map_of_mem (f := fun s : Sl HeldV => pls s.l) hs)).2.1 _ (List.mem_map_of_mem (f := HeldV.pl) hh)
   refine C_region (l := [0, 1, 2, 3, 4, 5, 6, 7]) rfl ?_
   refine Y_move ?_
   refine X_fhR rfl rfl F.ok29 rfl (bof_ok _ ⟨all_a, all_c, all_l⟩ mergedT 30 F.ok30 merged_ok2 k_all hall2 hcel mergedT_keeps) (by repeat first | exact Rem.here _ | exact Rem.two | apply Rem.skip | apply Rem.over) (fun _ _ _ hm hw => (hw.lower (by exact hm)).c) (putE_some rfl) ?_
   rintro _ M4 _ hm4 ⟨bm, om, om_m, rfl, rfl, hom, hpm, hmo⟩
   obtain ⟨S9, hS⟩ : ∃ S, S = ofS mergedT (plss all_l) := ⟨_, rfl⟩
   have hS9 : StOk S9 := by
    rw [hS]
    exact ofS_ok mergedT_keeps (fun s hs x hx => (hcs.2.2.2 s hs).2.1 x hx)
   replace hpm : (mpl om_m).Perm S9 := by rw [hS]; exact hpm
   refine X_fhR rfl rfl F.ok31 rfl (brow_ok _ bm om_m om hom hmo _ S9 hS9 hpm) (by repeat first | exact Rem.here _ | exact Rem.two | apply Rem.skip | apply Rem.over) (fun _ _ _ hm hw => (hw.lower (by exact Mem.le.trans (by assumption) hm)).c) (putE_some rfl) ?_
   rintro _ M5 _ hm5 ⟨rfl, ⟨q_a, q_c, q_l⟩, rfl, g9, k9, o9⟩
   obtain ⟨e9, he9⟩ : ∃ e, (fullR S9).2 = e := ⟨_, rfl⟩
   rw [he9]
   have hmm := hm4.trans hm5
   try simp only at g9 o9
   have s_q := k9.h1
   try simp only at s_q
   have m_q : q_l.length ≤ 9223372036854775807 := k9.h2
   have n_q : (q_l.map HeldV.segs).length = q_l.length := List.length_map ..
   refine Y_move ?_
   iterate 2 refine Y_extract ?_
   iterate 2 refine Y_assign ?_
   refine XD_end ?_
   refine K_then ?_
   refine Y_pk [9, 8, 7, 6, 0, 1] ?_
   iterate 2 refine C_seq ?_
   refine C_region (l := [0, 1]) rfl ?_
   refine Y_move ?_
   refine Y_cmp ?_
   refine XD_end ?_
   refine K_then ?_
   refine Y_pk [27, 9, 8, 7, 6, 0, 1] ?_
   refine C_cond rfl (fun hc2 => ?_) (fun hc2 => ?_)
   ·replace hc2 := nT hc2
    refine C_seq ?_
    refine C_region (l := [0, 1, 2]) rfl ?_
    refine Y_move ?_
    iterate 2 refine Y_assign ?_
    refine XD_end ?_
    refine K_then ?_
    refine Y_pk [7, 6, 8, 0, 1] ?_
    refine C_ret ?_
    refine K_ret ?_
    refine K_end (.inr rfl) (.tmp rfl (.tmp rfl .nil)) (fun w hw => ?_)
    refine ⟨_, M5, rfl, hmm, hw.c, ?_⟩
    have he12 : 2000 < S9.length ∧ e9 = 12 := by
     unfold fullR at he9
     by_cases h9 : 2000 < S9.length
     ·rw [if_pos h9] at he9; exact ⟨h9, he9.symm⟩
     ·rw [if_neg h9] at he9; exact absurd he9.symm (by assumption)
    rw [he12.2, show healR l_l r (plss all_l) = ([], 12) from by unfold healR; rw [if_pos hcs, if_pos (by rw [← hS]; exact he12.1)]]
    exact AllE.nil
   ·replace hc2 := nF hc2
    refine C_skip ?_
    refine K_then ?_
    refine Y_pk [8, 7, 6, 0, 1] ?_
    refine C_seq ?_
    have hn9 : ¬ 2000 < q_l.length ∧ pls q_l = ofS mergedT (plss all_l) := by
     have he0 : e9 = 0 := by first | assumption | omega
     rw [he0] at he9
     unfold fullR at g9 he9
     by_cases h9 : 2000 < S9.length
     ·rw [if_pos h9] at he9; cases he9
     ·rw [if_neg h9] at g9
      have g8 : pls q_l = S9 := g9
      exact ⟨by rw [← pls_len, g8]; exact h9, by rw [g8, hS]⟩
    obtain ⟨hn9, hqS⟩ := hn9
    refine C_region (l := [0, 1, 2, 3]) rfl ?_
    refine Y_move ?_
    refine Y_len_sl F.elem22 ?_
    refine X_makeSliceO (zr := [.one (.slice none 0 0)]) rfl rfl rfl rfl F.elem23 F.zero31 rfl rfl rfl (by omega) (by omega) rfl ?_; intro bo hs0 ho0
    refine Y_assign ?_
    refine XD_end ?_
    refine K_then ?_
    refine Y_pk [10, 8, 7, 6, 0, 1] ?_
    iterate 2 refine C_seq ?_
    refine C_region (l := [0, 1, 2]) rfl ?_
    refine Y_move ?_
    refine Y_len_sl F.elem31 ?_
    refine Y_move ?_
    refine XD_end ?_
    refine K_then ?_
    refine Y_pk [34, 33, 32, 10, 7, 6, 0, 1] ?_
    refine C_block ?_
    refine Y_pk [34, 33, 32, 10, 7, 6, 0, 1] ?_
    refine C_loopO (Hin := hs0) (.succ .zero) (by repeat first | exact Rem.here _ | exact Rem.two | apply Rem.skip | apply Rem.over) (fun (k : Nat) M1 h1 z => ∃ (xs : List OwnS) (hso : Hp), z = [(34, .int .i64 (k : Int))] ∧ k ≤ q_l.length ∧ h1 = hso ++ famH xs ∧ OSl 31 1 (.slice (some ⟨bo, 0, none⟩) l_l.length l_l.length) hso (xs.map fun x : OwnS => ([.one x.v] : Segs)) ∧ FamI 49 l_l.length xs (fun i => filt l_l r i (q_l.take k))) (fun k => q_l.length - k) (0) (⟨List.replicate l_l.length ⟨.slice none 0 0, [], []⟩, hs0, rfl, by omega, by rw [famH_none]; simp, by rw [List.map_replicate]; exact ho0, FamI.none _ _ (fun i _ => by simp [filt])⟩) ?_
    rintro k M1 h1 z hm1 ⟨xs, hso, rfl, hk, rfl, ho, hf⟩
    have s_q1 := s_q.mono hm1
    refine C_seq ?_
    refine C_region (l := [0]) rfl ?_
    refine Y_cmp ?_
    refine XD_end ?_
    refine K_then ?_
    refine C_seq ?_
    refine C_cond rfl (fun hc3 => ?_) (fun hc3 => ?_)
    ·replace hc3 := dT hc3
     refine C_skip ?_
     refine K_then ?_
     refine C_seq ?_
     refine C_block ?_
     refine C_seq ?_
     refine C_region (l := [0, 1, 2, 3]) rfl ?_
     refine X_indexAddr rfl rfl rfl rfl F.elem31 (by rfl) (by omega) (by exact SlM.plain (by assumption) (by (simp; omega))) rfl ?_
     refine X_load_el rfl rfl rfl (by assumption) (by exact row_map (by omega)) F.lay49 rfl rfl rfl ?_
     refine Y_alloc F.zero49 ?_; intro b4
     refine Y_store F.lay49 ?_
     refine XD_end ?_
     refine K_then ?_
     refine C_seq ?_
     refine C_region (l := [0, 1, 2, 3, 4, 5, 6]) rfl ?_
     iterate 2 refine Y_move ?_
     refine Y_fieldAddr F.foff49_0 ?_
     refine Y_load F.lay33 ?_
     refine X_fn rfl rfl F.ok32 rfl (keepers_ok _ ⟨l_a, l_c, l_l⟩ r q_l[k].key (k_l.mono (hmm.trans hm1))) rfl ?_
     rintro _ M3 hm3 ⟨⟨c_a, c_c, c_l⟩, rfl, hcl, k_c⟩
     try simp only at hcl
     have s_c := k_c.h1
     try simp only at s_c
     have m_c : c_l.length ≤ 9223372036854775807 := k_c.h2
     have n_c : (c_l.map (oneI .i64)).length = c_l.length := List.length_map ..
     obtain ⟨hcn, hca⟩ := copies_at hcs.1 hcs.2.1 hcl
     refine Y_len_sl F.elem52 ?_
     refine Y_move ?_
     refine XD_end ?_
     refine K_then ?_
     refine C_block ?_
     refine Y_pk [44, 43, 42, 41, 40, 39, 38, 12, 37, 36, 35, 34, 33, 32, 10, 7, 6, 0, 1] ?_
     refine C_loopO (Hin := (hso ++ famH xs)) (.succ .zero) (by repeat first | exact Rem.here _ | exact Rem.two | apply Rem.skip | apply Rem.over) (fun (j : Nat) M2 h2 z => ∃ (xs2 : List OwnS) (hso2 : Hp), z = [(44, .int .i64 (j : Int))] ∧ j ≤ c_l.length ∧ h2 = hso2 ++ famH xs2 ∧ OSl 31 1 (.slice (some ⟨bo, 0, none⟩) l_l.length l_l.length) hso2 (xs2.map fun x : OwnS => ([.one x.v] : Segs)) ∧ FamI 49 l_l.length xs2 (gainG l_l r q_l k (c_l.take j) q_l[k])) (fun j => c_l.length - j) (0) (⟨xs, hso, rfl, by omega, rfl, ho, hf.congr fun i _ => gain_nil i⟩) ?_
     rintro j M2 h2 z hm2 ⟨xs2, hso2, rfl, hj, rfl, ho2, hf2⟩
     have s_c2 := s_c.mono hm2
     try simp only at s_c2
     refine C_seq ?_
     refine C_region (l := [0]) rfl ?_
     refine Y_cmp ?_
     refine XD_end ?_
     refine K_then ?_
     refine C_seq ?_
     refine C_cond rfl (fun hc5 => ?_) (fun hc5 => ?_)
     ·replace hc5 := dT hc5
      refine C_skip ?_
      refine K_then ?_
      refine C_seq ?_
      refine C_block ?_
      refine C_seq ?_
      refine C_region (l := [0, 1, 2]) rfl ?_
      refine X_indexAddr rfl rfl rfl rfl F.elem52 (by rfl) (by omega) (by exact SlM.plain (by assumption) (by (simp; omega))) rfl ?_
      refine X_load_el rfl rfl rfl (by assumption) (by exact row_map (by omega)) F.lay3 rfl rfl rfl ?_
      obtain ⟨i0, hi0, hil⟩ := hca j (by omega)
      rw [hi0]
      refine Y_assign ?_
      refine XD_end ?_
      refine K_then ?_
      obtain ⟨vi, hsi, A9, B9, hrow, hoi, hAB, hstep⟩ := hf2.pick hil
      have hgl := gain_len (l := l_l) (r := r) (S := q_l) (k := k) (c := c_l.take j) (h := q_l[k]) (i := i0) (by omega)
      have hgm : ((gainG l_l r q_l k (c_l.take j) q_l[k] i0).map HeldV.segs).length = (gainG l_l r q_l k (c_l.take j) q_l[k] i0).length := List.length_map ..
      have hxl : (xs2.map fun x : OwnS => ([.one x.v] : Segs)).length = l_l.length := by rw [List.length_map, hf2.len]
      simp only [hAB, List.append_assoc]
      refine C_region_any (l := [0, 1, 2, 3, 4, 5, 6, 7, 8, 9, 10]) #[0, 0, 0, 0, 12, 28, 0, 64, 252, 511, 1023] _ rfl (by kernel_rfl) (by kernel_rfl) St.drawn (fun _ h => h) ?_
      iterate 4 refine Y_move ?_
      refine X_indexAddr rfl rfl rfl rfl F.elem23 (by rfl) (by omega) (by exact ⟨_, _, rfl⟩) rfl ?_
      refine X_load_osl (r := [.one vi]) rfl rfl rfl ho2 (by repeat first | exact Rem.here _ | exact Rem.two | apply Rem.skip | apply Rem.over) hrow F.lay31 rfl rfl rfl ?_
      refine Y_load F.lay49 ?_
      refine X_buildSliceF rfl rfl F.elem31 F.zero49 rfl rfl (.cons rfl (by constructor) .nil) rfl rfl (by simp only [List.map_cons, List.map_nil] <;> rfl) rfl ?_; intro b6 hob7
      refine X_append (m := 1000000) rfl rfl rfl rfl rfl F.elem31 F.zero49 (by exact agg_size rfl) rfl (by assumption) (by repeat first | exact Rem.here _ | exact Rem.two | apply Rem.skip | apply Rem.over) (Src.own hob7.lens (by (refine rows_one1 ?_; (repeat (first | exact flat_nil | refine flat_id ?_ | (refine flat_one ?_ ?_; rfl))); done)) rfl (by repeat first | exact List.Mem.head _ | refine List.Mem.tail _ ?_ | refine List.mem_append_right _ ?_)) (by (simp; omega)) (by decide) rfl ?_; intro v10 hs9 ho8; obtain ⟨adv10, cpv10, rfl⟩ := ho8.val
      refine X_indexAddr rfl rfl rfl rfl F.elem23 (by rfl) (by omega) (by exact ⟨_, _, rfl⟩) rfl ?_
      have hoq := OSl.as9 ho8 (show _ = (gainG l_l r q_l k (c_l.take j) q_l[k] i0 ++ [q_l[k]]).map HeldV.segs by simp [List.map_append] <;> rfl)
      obtain ⟨xs3, hf3, hh3, hr3⟩ := hstep _ _ _ hoq
      refine X_storeO rfl rfl rfl rfl (by constructor) (by (repeat (first | exact flat_nil | refine flat_id ?_ | (refine flat_one ?_ ?_; rfl))); done) F.lay31 rfl rfl ho2 (by repeat first | exact Rem.here _ | exact Rem.two | apply Rem.skip | apply Rem.over) (by rw [hxl]; exact hil) ?_; intro hsz9 hoz9
      rw [hxl] at hoz9
      refine XD_end ?_
      refine K_out ?_
      refine K_then ?_
      refine C_region (l := [0, 1]) rfl ?_
      refine X_ari rfl rfl rfl rfl rfl (by exact wrap_in (by decide) (by omega)) rfl ?_
      refine Y_move ?_
      refine XD_end ?_
      refine K_roundO (a' := [(44, _)]) (j + 1) ((hsz9 ++ (A9 ++ (hs9 ++ B9)))) (.cons (k := 44) rfl (.cons (k := 43) rfl (.cons (k := 42) rfl (.cons (k := 41) rfl (.cons (k := 40) rfl (.cons (k := 39) rfl (.cons (k := 38) rfl (.cons (k := 12) rfl (.cons (k := 37) rfl (.cons (k := 36) rfl (.cons (k := 35) rfl (.cons (k := 34) rfl (.cons (k := 33) rfl (.cons (k := 32) rfl (.cons (k := 10) rfl (.cons (k := 7) rfl (.cons (k := 6) rfl (.cons (k := 0) rfl (.cons (k := 1) rfl (.nil)))))))))))))))))))) hm2 (fun w hw => by first | exact hw | exact hw.c) ?_ ?_
      ·exact ⟨xs3, hsz9, rfl, by omega, by rw [hh3], by rw [← hr3]; exact hoz9, hf3.congr fun i _ => gain_step hcn (by omega) hi0 i⟩
      ·omega
     ·replace hc5 := dF hc5
      refine C_exit ?_
      iterate 2 refine K_exit ?_
      refine K_hit ?_
      refine K_out ?_
      refine K_then ?_
      refine C_region (l := [0, 1]) rfl ?_
      refine X_ari rfl rfl rfl rfl rfl (by exact wrap_in (by decide) (by omega)) rfl ?_
      refine Y_move ?_
      refine XD_end ?_
      refine K_roundO (a' := [(34, _)]) (k + 1) ((hso2 ++ famH xs2)) (.cons (k := 34) rfl (.cons (k := 33) rfl (.cons (k := 32) rfl (.cons (k := 10) rfl (.cons (k := 7) rfl (.cons (k := 6) rfl (.cons (k := 0) rfl (.cons (k := 1) rfl (.nil))))))))) (hm1.trans (hm3.trans hm2)) (fun w hw => by first | exact hw | exact hw.c) ?_ ?_
      ·refine ⟨xs2, hso2, rfl, by omega, rfl, ho2, ?_⟩
       obtain rfl : j = c_l.length := by omega
       rw [List.take_length] at hf2
       exact hf2.congr fun i _ => gain_end (by omega) hcl i
      ·omega
    ·replace hc3 := dF hc3
     refine C_exit ?_
     iterate 2 refine K_exit ?_
     refine K_hit ?_
     refine K_then ?_
     refine Y_pk [10, 7, 6] ?_
     refine C_seq ?_
     refine C_region (l := [0, 1, 2]) rfl ?_
     refine Y_move ?_
     iterate 2 refine Y_assign ?_
     refine XD_end ?_
     refine K_then ?_
     refine Y_pk [7, 6] ?_
     refine C_ret ?_
     refine K_end (.inr rfl) (.tmp rfl (.tmp rfl .nil)) (fun w hw => ?_)
     obtain rfl : k = q_l.length := by omega
     rw [List.take_length] at hf
     have hw9 : St _ (famH xs ++ (hso ++ H)) w := hw.c
     obtain ⟨M6, ss, j1, j2, j3, j4, j5⟩ := fam_freeze hf.ok hw9
     have hoz : OSl 31 1 (.slice (some ⟨bo, 0, none⟩) l_l.length l_l.length) hso (ss.map fun s : Sl HeldV => ([.one (Sl.val s)] : Segs)) := ho.as9 (by
      have h9 := congrArg (List.map fun v : Value => ([.one v] : Segs)) j4
      rw [List.map_map, List.map_map] at h9
      exact h9.symm)
     obtain ⟨M7, i1, i2, i3⟩ := hoz.frz j2
     have hsl : ss.length = l_l.length := by have h9 := congrArg List.length j3; rw [List.length_map, List.length_map, hf.len] at h9; exact h9
     have h8 := AllE.healed (M := M5) (M' := M7) (r := r) hcs hqS hn9 hf j3 i3 (fun s hs => (j5 s hs).mono i1) o9 (hm1.trans (j1.trans i1))
     refine ⟨_, M7, rfl, hmm.trans (hm1.trans (j1.trans i1)), i2, ?_⟩
     simp only [Sl.val, hsl] at h8
     exact h8

end Go.Proofs.Ytbafnjniijodfaa
/-
  Small places.
-/
set_option linter.unusedSimpArgs false
set_option linter.unusedVariables false
set_option linter.unnecessarySimpa false
namespace Go.Esp
/-- A small number's place. -/
def smallP (n : Int) : Plc := ofBytes fun i => if i = 19 then (n % 256).toNat else if i = 18 then (n / 256 % 256).toNat else 0
theorem smallP_lt (n : Int) : ∀ i, (if i = 19 then (n % 256).toNat else if i = 18 then (n / 256 % 256).toNat else 0) < 256 := fun i => by
  split
  · omega
  · split
    · omega
    · decide
theorem idV0 {i : Nat} (h : i < 20) : (idV 0)[i] = .int .u8 0 := by rw [idV_get _ h]; simp [idB]
theorem small_seg (n : Int) : idV (smallP n) = ((idV 0).set 19 (.int .u8 (n % 256))).set 18 (.int .u8 (n / 256 % 256)) := by
  apply Vector.ext
  intro i hi
  rw [idV_get _ hi]
  unfold smallP
  rw [idB_ofBytes (smallP_lt n) hi]
  by_cases e8 : i = 18
  · subst e8
    rw [Vector.getElem_set_self]
    simp
    omega
  · rw [Vector.getElem_set_ne _ _ (Ne.symm e8)]
    by_cases e9 : i = 19
    · subst e9
      rw [Vector.getElem_set_self]
      simp
      omega
    · rw [Vector.getElem_set_ne _ _ (Ne.symm e9), idV0 hi]
      simp [e8, e9]

/-! The document's example. -/
end Go.Esp
/-
  The example of the document.
-/
set_option linter.unusedSimpArgs false
set_option linter.unusedVariables false
set_option linter.unnecessarySimpa false
set_option maxRecDepth 8000
set_option maxHeartbeats 1000000
namespace Go.Proofs.Ytbafnjniijodfaa
open Go.Esp
theorem F.bld54 : Bld Try.prog 54 [[.one (.int .i64 0)], [idSeg 0]] := by rw [idSeg0]; exact ⟨by kernel_rfl, by kernel_rfl⟩
theorem F.ok13 : okFn Try.prog 13 = true := by kernel_rfl
theorem F.ok19 : okFn Try.prog 19 = true := by kernel_rfl
theorem F.ok35 : okFn Try.prog 35 = true := by kernel_rfl
theorem F.ok36 : okFn Try.prog 36 = true := by kernel_rfl
theorem F.ok9 : okFn Try.prog 9 = true := by kernel_rfl

theorem Small_ok (M : Mem) (n : Int) (hn : 0 ≤ n ∧ n ≤ 1000000) : Fs Try.prog 35 [.int .i64 n] M (fun v => v = (fun x => aggV [idSeg x]) (smallP n)) := by
  refine fs_enter Try.func35 rfl Try.ntmps35 rfl ?_; intro H
  refine C_seq ?_
  refine C_region (l := [0]) rfl ?_
  refine Y_alloc F.zero33 ?_; intro b1
  refine XD_end ?_
  refine K_then ?_
  refine C_seq ?_
  refine C_region (l := [0]) rfl ?_
  refine Y_alloc F.zero33 ?_; intro b2
  refine XD_end ?_
  refine K_then ?_
  refine C_seq ?_
  refine C_region (l := [0, 1, 2, 3, 4]) rfl ?_
  refine Y_move ?_
  refine X_rem rfl rfl rfl rfl (by decide) (by exact rem_nn (by omega)) rfl ?_
  refine X_conv rfl rfl rfl Try.underlying3 Try.underlying5 (by exact wrap_u8_in (by decide) (by omega)) rfl ?_
  refine X_indexAddr_arr rfl rfl rfl rfl F.arr33 (by rfl) (by decide) rfl ?_
  refine X_store_cell rfl rfl rfl rfl rfl rfl (by repeat first | exact Upd.head | apply Upd.tail | apply Upd.over) F.lay5 (arr_len (by decide)) (arr_set (by decide)) ?_
  refine XD_end ?_
  refine K_then ?_
  refine Y_pk [3, 2, 0] ?_
  refine C_seq ?_
  refine C_region (l := [0, 1, 2, 3, 4, 5]) rfl ?_
  refine Y_move ?_
  refine X_quo rfl rfl rfl rfl (by decide) (by exact quo_in rfl (by omega) (by omega) (by omega)) rfl ?_
  refine X_rem rfl rfl rfl rfl (by decide) (by exact rem_nn (by omega)) rfl ?_
  refine X_conv rfl rfl rfl Try.underlying3 Try.underlying5 (by exact wrap_u8_in (by decide) (by omega)) rfl ?_
  refine X_indexAddr_arr rfl rfl rfl rfl F.arr33 (by rfl) (by decide) rfl ?_
  refine X_store_cell rfl rfl rfl rfl rfl rfl (by repeat first | exact Upd.head | apply Upd.tail | apply Upd.over) F.lay5 (arr_len (by decide)) (arr_set (by decide)) ?_
  refine XD_end ?_
  refine K_then ?_
  refine Y_pk [3, 2] ?_
  refine C_seq ?_
  refine C_region (l := [0, 1]) rfl ?_
  refine Y_load F.lay33 ?_
  refine XD_is 13 rfl (show aggV [.arr 20 _] = aggV [idSeg (smallP n)] from by unfold idSeg; rw [small_seg]) ?_
  refine Y_store F.lay33 ?_
  refine XD_end ?_
  refine K_then ?_
  refine Y_pk [2] ?_
  refine C_ret ?_
  refine K_end (.inr rfl) (.cell rfl (by repeat first | exact List.Mem.head _ | refine List.Mem.tail _ ?_ | refine List.mem_append_right _ ?_) F.lay33 rfl rfl .nil) (fun w hw => ?_)
  refine ⟨_, rfl, (hw.c), ?_⟩
  clear hw
  rfl

theorem xs10 : smallP 10 = 10#160 := by kernel_rfl
theorem small10_ok (M : Mem) : Fs Try.prog 35 [.int .i64 10] M (fun v => v = aggV [idSeg 10#160]) := by
  have h := Small_ok M 10 (by decide)
  rw [xs10] at h
  exact h

theorem xs15 : smallP 15 = 15#160 := by kernel_rfl
theorem small15_ok (M : Mem) : Fs Try.prog 35 [.int .i64 15] M (fun v => v = aggV [idSeg 15#160]) := by
  have h := Small_ok M 15 (by decide)
  rw [xs15] at h
  exact h

theorem xs20 : smallP 20 = 20#160 := by kernel_rfl
theorem small20_ok (M : Mem) : Fs Try.prog 35 [.int .i64 20] M (fun v => v = aggV [idSeg 20#160]) := by
  have h := Small_ok M 20 (by decide)
  rw [xs20] at h
  exact h

theorem xs30 : smallP 30 = 30#160 := by kernel_rfl
theorem small30_ok (M : Mem) : Fs Try.prog 35 [.int .i64 30] M (fun v => v = aggV [idSeg 30#160]) := by
  have h := Small_ok M 30 (by decide)
  rw [xs30] at h
  exact h

def threeL : List PeerV := [⟨1, 10#160⟩, ⟨2, 20#160⟩, ⟨3, 30#160⟩]
def cA : CellV := ⟨1, true, ⟨#[97]⟩, ⟨none, 0, []⟩⟩
def hA : Hd := ⟨15#160, cA.pl⟩
theorem put15 : putR [] 15#160 cA.pl = ([hA], 0) := by kernel_rfl
theorem heal15 : healR threeL 2 [[hA], [], []] = ([[], [hA], [hA]], 0) := by kernel_rfl
theorem heal0 : healR threeL 2 [] = ([], 1) := by kernel_rfl
theorem whole15 : wholeR threeL 2 [[], [hA], [hA]] := of_decide_eq_true (by kernel_rfl)
theorem whole0 : ¬ wholeR threeL 2 [[hA], [], []] := of_decide_eq_false (by kernel_rfl)
theorem isst15 : IsSt [hA] := of_decide_eq_true (by kernel_rfl)
theorem pls_one {l : List HeldV} {h : Hd} (e : pls l = [h]) : ∃ x, l = [x] ∧ HeldV.pl x = h := by
  cases l with
  |nil => cases e
  |cons x l =>
   cases l with
   |nil => exact ⟨x, rfl, (List.cons.inj e).1⟩
   |cons y l => cases (List.cons.inj e).2
theorem plss_three {A : List (Sl HeldV)} {a b c : List Hd} (e : plss A = [a, b, c]) : ∃ x y z, A = [x, y, z] ∧ pls x.l = a ∧ pls y.l = b ∧ pls z.l = c := by
  cases A with
  |nil => cases e
  |cons x A =>
   obtain ⟨e1, e⟩ := List.cons.inj e
   cases A with
   |nil => cases e
   |cons y A =>
    obtain ⟨e2, e⟩ := List.cons.inj e
    cases A with
    |nil => cases e
    |cons z A =>
     obtain ⟨e3, e⟩ := List.cons.inj e
     cases A with
     |nil => exact ⟨x, y, z, rfl, e1, e2, e3⟩
     |cons _ _ => cases e

theorem HealF_ok (M : Mem) (l : Sl PeerV) (r : Int) (a : Option Addr) (c : Nat) (all : List (Sl HeldV)) (hs : Hp) (hl : SlK M PeerV.segs 21 l) (ho : OSl 31 1 (.slice a all.length c) hs (all.map fun x => ([.one (Sl.val x)] : Segs))) (hall : ∀ s ∈ all, SlK M HeldV.segs 24 s ∧ ∀ h ∈ s.l, HeldV.ok M h) : Fh Try.prog 9 [Sl.val l, .int .i64 r, .slice a all.length c] M hs (fun M' v Hout => Hout = [] ∧ AllE M' v (healR l.l r (plss all))) := fun H w hw => by
  obtain ⟨M1, h1, h2, h3⟩ := ho.frz hw
  exact (Heal_ok M1 l r ⟨a, c, all⟩ (hl.mono h1) h3 (fun s hs => ⟨(hall s hs).1.mono h1, fun h hh => ((hall s hs).2 h hh).mono h1⟩) H w h2).mono fun e w2 ⟨v, M2, g1, g2, g3, g4⟩ => ⟨v, M2, [], g1, h1.trans g2, g3, rfl, g4⟩

theorem WholeF_ok (M : Mem) (l : Sl PeerV) (r : Int) (a : Option Addr) (c : Nat) (all : List (Sl HeldV)) (hs : Hp) (hl : SlK M PeerV.segs 21 l) (ho : OSl 31 1 (.slice a all.length c) hs (all.map fun x => ([.one (Sl.val x)] : Segs))) (hall : ∀ s ∈ all, SlK M HeldV.segs 24 s ∧ ∀ h ∈ s.l, HeldV.ok M h) : Fh Try.prog 13 [Sl.val l, .int .i64 r, .slice a all.length c] M hs (fun M' v Hout => Hout = [] ∧ v = .bool (decide (wholeR l.l r (plss all)))) := fun H w hw => by
  obtain ⟨M1, h1, h2, h3⟩ := ho.frz hw
  exact (Whole_ok M1 l r ⟨a, c, all⟩ (hl.mono h1) h3 (fun s hs => ⟨(hall s hs).1.mono h1, fun h hh => ((hall s hs).2 h hh).mono h1⟩) H w h2).mono fun e w2 ⟨v, M2, g1, g2, g3, g4⟩ => ⟨v, M2, [], g1, h1.trans g2, g3, rfl, g4⟩

theorem three_ok (M : Mem) : Esp.Fn Try.prog 36 [] M (fun M' v => ∃ s : Sl PeerV, v = s.val ∧ s.l = threeL ∧ SlK M' PeerV.segs 21 s) := by
  refine fn_enter Try.func36 rfl Try.ntmps36 rfl ?_; intro H
  refine C_seq ?_
  refine C_region (l := [0]) rfl ?_
  refine Y_assign ?_
  refine XD_end ?_
  refine K_then ?_
  refine C_seq ?_
  refine C_region (l := [0, 1, 2, 3, 4, 5, 6, 7]) rfl ?_
  refine X_fs rfl rfl F.ok35 rfl (small10_ok _) rfl ?_
  rintro _ rfl
  refine X_build rfl rfl F.bld54 (.cons rfl (by constructor) (.cons rfl (by constructor) .nil)) rfl rfl ?_
  refine X_fs rfl rfl F.ok35 rfl (small20_ok _) rfl ?_
  rintro _ rfl
  refine X_build rfl rfl F.bld54 (.cons rfl (by constructor) (.cons rfl (by constructor) .nil)) rfl rfl ?_
  refine X_fs rfl rfl F.ok35 rfl (small30_ok _) rfl ?_
  rintro _ rfl
  refine X_build rfl rfl F.bld54 (.cons rfl (by constructor) (.cons rfl (by constructor) .nil)) rfl rfl ?_
  refine X_buildSliceF rfl rfl F.elem22 F.zero54 rfl rfl (.cons rfl (by constructor) (.cons rfl (by constructor) (.cons rfl (by constructor) .nil))) rfl rfl (by simp only [List.map_cons, List.map_nil] <;> rfl) rfl ?_; intro b1 hob2
  refine Y_assign ?_
  refine XD_end ?_
  refine K_then ?_
  refine Y_pk [0] ?_
  refine C_ret ?_
  refine K_end (.inr rfl) (.tmp rfl .nil) (fun w hw => ?_)
  obtain ⟨M9, j1, j2, j3⟩ := OSl.frz (l := threeL) (f := PeerV.segs) (show OSl 54 21 _ _ (threeL.map PeerV.segs) from hob2) hw
  exact ⟨_, M9, rfl, j1, j2, ⟨_, 3, threeL⟩, rfl, rfl, j3⟩

theorem healed_ok (M : Mem) : Esp.Fn Try.prog 11 [] M (fun _ v => v = .bool true) := by
  refine fn_enter Try.func11 rfl Try.ntmps11 rfl ?_; intro H
  refine C_seq ?_
  refine C_region (l := [0]) rfl ?_
  refine Y_assign ?_
  refine XD_end ?_
  refine K_then ?_
  refine C_seq ?_
  refine C_region (l := [0, 1, 2]) rfl ?_
  refine X_build rfl rfl F.bld37 (.cons rfl (by constructor) (.cons rfl (by constructor) (.cons rfl (by constructor) .nil))) rfl rfl ?_
  refine Y_alloc F.zero37 ?_; intro b1
  refine Y_store F.lay37 ?_
  refine XD_end ?_
  refine K_then ?_
  refine Y_pk [1, 0] ?_
  refine C_seq ?_
  refine C_region_any (l := [0, 1, 2, 3, 4, 5, 6, 7]) #[0, 0, 3, 7, 15, 15, 31, 127] _ rfl (by kernel_rfl) (by kernel_rfl) St.drawn (fun _ h => h) ?_
  refine X_fs rfl rfl F.ok35 rfl (small15_ok _) rfl ?_
  rintro _ rfl
  refine Y_load F.lay37 ?_
  refine X_fn rfl rfl F.ok19 rfl (Put_ok _ ⟨none, 0, []⟩ 15#160 cA SlK.nil (fun h hh => by cases hh) ⟨SlK.nil⟩) rfl ?_
  rintro _ M5 hm5 hv
  replace hv : StE _ _ (putR [] 15#160 cA.pl) := hv
  rw [put15] at hv
  obtain ⟨⟨s_a, s_c, s_l⟩, rfl, hs, k_s, o_s⟩ := hv
  simp only at hs o_s
  obtain ⟨x0, rfl, hx0⟩ := pls_one hs
  refine Y_move ?_
  iterate 2 refine Y_extract ?_
  iterate 2 refine Y_assign ?_
  refine XD_end ?_
  refine K_then ?_
  refine Y_pk [3, 2, 1, 0] ?_
  refine C_seq ?_
  refine C_region (l := [0, 1, 2, 3, 4, 5, 6, 7, 8]) rfl ?_
  refine X_fn rfl rfl F.ok36 rfl (three_ok _) rfl ?_
  rintro _ M1 hm1 ⟨⟨a1, c1, l1⟩, rfl, h1, k1⟩
  simp only at h1
  subst h1
  refine Y_move ?_
  refine X_buildSliceF rfl rfl F.elem23 F.zero31 rfl rfl (.cons rfl (by constructor) (.cons rfl (by constructor) (.cons rfl (by constructor) .nil))) rfl rfl (by simp only [List.map_cons, List.map_nil] <;> rfl) rfl ?_; intro b2 hob3
  refine X_fhR rfl rfl F.ok9 rfl (HealF_ok _ ⟨a1, c1, threeL⟩ 2 _ _ [(⟨s_a, s_c, [x0]⟩ : Sl HeldV), ⟨none, 0, []⟩, ⟨none, 0, []⟩] _ (k1.mono (by exact Mem.le.refl _)) (show OSl 31 1 _ _ ([(⟨s_a, s_c, [x0]⟩ : Sl HeldV), ⟨none, 0, []⟩, ⟨none, 0, []⟩].map fun x => ([.one (Sl.val x)] : Segs)) from hob3) (fun s hs => by
   rcases List.mem_cons.1 hs with rfl | hs
   ·exact ⟨k_s.mono (by assumption), fun h hh => (o_s h hh).mono (by assumption)⟩
   ·have e9 : s = ⟨none, 0, []⟩ := by simpa using hs
    subst e9
    exact ⟨SlK.nil, fun h hh => by cases hh⟩)) (by repeat first | exact Rem.here _ | exact Rem.two | apply Rem.skip | apply Rem.over) (fun _ _ _ hm hw => (hw.lower (by exact Mem.le.trans (by assumption) hm)).c) (putE_some rfl) ?_
  rintro _ M6 _ hm6 ⟨rfl, hv⟩
  replace hv : AllE _ _ (healR threeL 2 [pls [x0], [], []]) := hv
  rw [hs, heal15] at hv
  obtain ⟨⟨h_a, h_c, h_l⟩, rfl, hh, k_h, o_h⟩ := hv
  simp only at hh o_h
  obtain ⟨y0, y1, y2, rfl, hy0, hy1, hy2⟩ := plss_three hh
  have hy0n : y0.l.length = 0 := by rw [← pls_len, hy0]; rfl
  have hy2n : y2.l.length = 1 := by rw [← pls_len, hy2]; rfl
  have s_h := k_h.h1
  simp only at s_h
  have m_h : [y0, y1, y2].length = 3 := rfl
  refine Y_move ?_
  iterate 2 refine Y_extract ?_
  iterate 2 refine Y_assign ?_
  refine XD_end ?_
  refine K_then ?_
  refine Y_pk [5, 4, 3, 2, 1, 0] ?_
  refine C_seq ?_
  refine C_region (l := [0, 1, 2, 3, 4, 5, 6]) rfl ?_
  refine X_fn rfl rfl F.ok36 rfl (three_ok _) rfl ?_
  rintro _ M2 hm2 ⟨⟨a2, c2, l2⟩, rfl, h2, k2⟩
  simp only at h2
  subst h2
  refine X_fn rfl rfl F.ok9 rfl (Heal_ok _ ⟨a2, c2, threeL⟩ 2 ⟨none, 0, []⟩ (k2.mono (by exact Mem.le.refl _)) SlK.nil (fun h hh => by cases hh)) rfl ?_
  rintro _ M7 hm7 hv
  replace hv : AllE _ _ (healR threeL 2 []) := hv
  rw [heal0] at hv
  obtain ⟨⟨z_a, z_c, z_l⟩, rfl, hz, k_z, o_z⟩ := hv
  have s_h7 := s_h.mono (hm2.trans hm7)
  refine Y_move ?_
  iterate 2 refine Y_extract ?_
  iterate 2 refine Y_assign ?_
  refine XD_end ?_
  refine K_then ?_
  refine Y_pk [7, 5, 4, 3, 2, 1, 0] ?_
  iterate 2 refine C_seq ?_
  refine C_region (l := [0, 1, 2, 3, 4, 5, 6, 7, 8, 9, 10, 11, 12, 13, 14]) rfl ?_
  refine Y_move ?_
  refine Y_cmp ?_
  refine Y_move ?_
  refine XD_part 31 rfl (fun hc4 => ?_) (fun hc4 => ?_)
  ·replace hc4 := nT hc4
   simp only [AnswerV.eta, MarkV.eta, CellV.eta, HeldV.eta, PeerV.eta] at hc4
   (exfalso; simp [eqX] at hc4; done)
  ·replace hc4 := nF hc4
   simp only [AnswerV.eta, MarkV.eta, CellV.eta, HeldV.eta, PeerV.eta] at hc4
   refine Y_move ?_
   refine Y_cmp ?_
   refine Y_pick ?_
   refine Y_move ?_
   refine XD_part 35 rfl (fun hc5 => ?_) (fun hc5 => ?_)
   ·replace hc5 := nT hc5
    simp only [AnswerV.eta, MarkV.eta, CellV.eta, HeldV.eta, PeerV.eta] at hc5
    (exfalso; simp [eqX] at hc5; done)
   ·replace hc5 := nF hc5
    simp only [AnswerV.eta, MarkV.eta, CellV.eta, HeldV.eta, PeerV.eta] at hc5
    refine Y_move ?_
    refine Y_cmp ?_
    refine Y_pick ?_
    refine Y_move ?_
    refine XD_part 39 rfl (fun hc6 => ?_) (fun hc6 => ?_)
    ·replace hc6 := nT hc6
     simp only [AnswerV.eta, MarkV.eta, CellV.eta, HeldV.eta, PeerV.eta] at hc6
     (exfalso; simp [eqX] at hc6; done)
    ·replace hc6 := nF hc6
     simp only [AnswerV.eta, MarkV.eta, CellV.eta, HeldV.eta, PeerV.eta] at hc6
     refine Y_move ?_
     refine Y_len_sl F.elem23 ?_
     refine Y_cmp ?_
     refine Y_pick ?_
     refine XD_end ?_
     refine K_then ?_
     refine Y_pk [43, 4, 2, 1, 0] ?_
     refine C_cond rfl (fun hc7 => ?_) (fun hc7 => ?_)
     ·replace hc7 := nT hc7
      (exfalso; omega)
     ·replace hc7 := nF hc7
      refine C_skip ?_
      refine K_then ?_
      refine Y_pk [4, 2, 1, 0] ?_
      refine C_seq ?_
      refine C_region_any (l := [0, 1, 2, 3, 4, 5, 6, 7, 8, 9, 10]) #[0, 1, 3, 0, 15, 31, 63, 63, 0, 383, 1023] _ rfl (by kernel_rfl) (by kernel_rfl) St.drawn (fun _ h => h) ?_
      refine Y_move ?_
      refine X_indexAddr rfl rfl rfl rfl F.elem23 (by rfl) (by (simp; done)) (by exact SlM.plain (by assumption) (by (simp; done))) rfl ?_
      refine X_load_el rfl rfl rfl (by assumption) (by exact rfl) F.lay31 rfl rfl rfl ?_
      refine X_fs rfl rfl F.ok35 rfl (small15_ok _) rfl ?_
      rintro _ rfl
      refine X_fs rfl rfl F.ok17 rfl (Find_ok _ y1 15#160 ((o_h y1 (by simp)).1.mono (by (repeat first | assumption | refine Mem.le.trans (by assumption) ?_))) (fun h hh => ((o_h y1 (by simp)).2 h hh).mono (by (repeat first | assumption | refine Mem.le.trans (by assumption) ?_)))) rfl ?_
      rintro _ hv
      obtain ⟨⟨xc, xb⟩, hx⟩ : ∃ r, findX y1.l 15#160 = r := ⟨_, rfl⟩
      replace hv : _ = findXv (findX y1.l 15#160) := hv
      rw [hx] at hv
      subst hv
      have hfx := findX_S hx
      rw [hy1, show findS [hA] 15#160 = some cA.pl from by kernel_rfl] at hfx
      obtain ⟨rfl, hxc⟩ : xb = true ∧ cA.pl = xc.pl := by
       cases xb
       ·cases hfx
       ·exact ⟨rfl, Option.some.inj hfx⟩
      obtain ⟨y9, g1, g2, g3⟩ := findX_mem (l := y1.l) (k := 15#160) (by rw [hx])
      rw [hx] at g3
      simp only at g3
      have okx := (((o_h y1 (by simp)).2 y9 g1).mono (hm2.trans hm7)).h0
      rw [g3] at okx
      obtain ⟨x_v, x_h, x_s, ⟨x_a, x_c, x_l⟩⟩ := xc
      refine Y_move ?_
      iterate 2 refine Y_extract ?_
      refine Y_alloc F.zero37 ?_; intro b8
      refine Y_store F.lay37 ?_
      refine Y_assign ?_
      refine XD_end ?_
      refine K_then ?_
      refine Y_pk [9, 8, 4, 2, 1, 0] ?_
      refine C_seq ?_
      refine C_region (l := [0, 1, 2, 3, 4, 5, 6, 7, 8, 9, 10, 11, 12, 13, 14, 15, 16, 17, 18, 19, 20, 21, 22, 23, 24, 25, 26, 27, 28, 29, 30, 31, 32, 33, 34, 35, 36]) rfl ?_
      refine Y_move ?_
      refine X_indexAddr rfl rfl rfl rfl F.elem23 (by rfl) (by (simp; done)) (by exact SlM.plain (by assumption) (by (simp; done))) rfl ?_
      refine X_load_el rfl rfl rfl (by assumption) (by exact rfl) F.lay31 rfl rfl rfl ?_
      refine Y_len_sl F.elem31 ?_
      refine Y_cmp ?_
      refine Y_move ?_
      refine XD_part 57 rfl (fun hc9 => ?_) (fun hc9 => ?_)
      ·replace hc9 := dT hc9
       refine Y_move ?_
       refine X_indexAddr rfl rfl rfl rfl F.elem23 (by rfl) (by (simp; done)) (by exact SlM.plain (by assumption) (by (simp; done))) rfl ?_
       refine X_load_el rfl rfl rfl (by assumption) (by exact rfl) F.lay31 rfl rfl rfl ?_
       refine Y_len_sl F.elem31 ?_
       refine Y_cmp ?_
       refine Y_pick ?_
       refine Y_move ?_
       refine XD_part 64 rfl (fun hc10 => ?_) (fun hc10 => ?_)
       ·replace hc10 := dT hc10
        refine Y_move ?_
        refine Y_pick ?_
        refine Y_move ?_
        refine XD_part 67 rfl (fun hc11 => ?_) (fun hc11 => ?_)
        ·skip
         simp only [AnswerV.eta, MarkV.eta, CellV.eta, HeldV.eta, PeerV.eta] at hc11
         iterate 2 refine Y_load F.lay37 ?_
         refine X_fs rfl rfl F.ok25 rfl (SameC_ok _ cA ⟨x_v, x_h, x_s, ⟨x_a, x_c, x_l⟩⟩ ⟨SlK.nil⟩ (okx.mono (by exact Mem.le.refl _))) rfl ?_
         rintro _ hv
         replace hv : _ = Value.bool (decide (cA.pl = _)) := hv
         rw [decide_eq_true hxc] at hv
         subst hv
         refine Y_pick ?_
         refine Y_move ?_
         refine XD_part 72 rfl (fun hc12 => ?_) (fun hc12 => ?_)
         ·skip
          simp only [AnswerV.eta, MarkV.eta, CellV.eta, HeldV.eta, PeerV.eta] at hc12
          refine X_fn rfl rfl F.ok36 rfl (three_ok _) rfl ?_
          rintro _ M3 hm3 ⟨⟨a3, c3, l3⟩, rfl, h3, k3⟩
          simp only at h3
          subst h3
          refine Y_move ?_
          refine X_fn rfl rfl F.ok13 rfl (Whole_ok _ ⟨a3, c3, threeL⟩ 2 ⟨h_a, h_c, [y0, y1, y2]⟩ (k3.mono (by exact Mem.le.refl _)) (k_h.mono (by (repeat first | assumption | refine Mem.le.trans (by assumption) ?_))) (fun s hs => ⟨(o_h s hs).1.mono (by (repeat first | assumption | refine Mem.le.trans (by assumption) ?_)), fun h hh => ((o_h s hs).2 h hh).mono (by (repeat first | assumption | refine Mem.le.trans (by assumption) ?_))⟩)) rfl ?_
          rintro _ M8 hm8 hv
          replace hv : _ = Value.bool (decide (wholeR threeL 2 (plss [y0, y1, y2]))) := hv
          rw [hh, decide_eq_true whole15] at hv
          subst hv
          refine Y_pick ?_
          refine Y_move ?_
          refine XD_part 77 rfl (fun hc13 => ?_) (fun hc13 => ?_)
          ·skip
           simp only [AnswerV.eta, MarkV.eta, CellV.eta, HeldV.eta, PeerV.eta] at hc13
           refine X_fn rfl rfl F.ok36 rfl (three_ok _) rfl ?_
           rintro _ M4 hm4 ⟨⟨a4, c4, l4⟩, rfl, h4, k4⟩
           simp only at h4
           subst h4
           refine Y_move ?_
           refine X_buildSliceF rfl rfl F.elem23 F.zero31 rfl rfl (.cons rfl (by constructor) (.cons rfl (by constructor) (.cons rfl (by constructor) .nil))) rfl rfl (by simp only [List.map_cons, List.map_nil] <;> rfl) rfl ?_; intro b14 hob15
           refine X_fhR rfl rfl F.ok13 rfl (WholeF_ok _ ⟨a4, c4, threeL⟩ 2 _ _ [(⟨s_a, s_c, [x0]⟩ : Sl HeldV), ⟨none, 0, []⟩, ⟨none, 0, []⟩] _ (k4.mono (by exact Mem.le.refl _)) (show OSl 31 1 _ _ ([(⟨s_a, s_c, [x0]⟩ : Sl HeldV), ⟨none, 0, []⟩, ⟨none, 0, []⟩].map fun x => ([.one (Sl.val x)] : Segs)) from hob15) (fun s hs => by
            rcases List.mem_cons.1 hs with rfl | hs
            ·exact ⟨k_s.mono (by (repeat first | assumption | refine Mem.le.trans (by assumption) ?_)), fun h hh => (o_s h hh).mono (by (repeat first | assumption | refine Mem.le.trans (by assumption) ?_))⟩
            ·have e9 : s = ⟨none, 0, []⟩ := by simpa using hs
             subst e9
             exact ⟨SlK.nil, fun h hh => by cases hh⟩)) (by repeat first | exact Rem.here _ | exact Rem.two | apply Rem.skip | apply Rem.over) (fun _ _ _ hm hw => (hw.lower (by exact Mem.le.trans (by (repeat first | assumption | refine Mem.le.trans (by assumption) ?_)) hm)).c) (putE_some rfl) ?_
           rintro _ M9 _ hm9 ⟨rfl, hv⟩
           replace hv : _ = Value.bool (decide (wholeR threeL 2 [pls [x0], [], []])) := hv
           rw [hs, decide_eq_false whole0] at hv
           subst hv
           refine Y_not ?_
           refine Y_pick ?_
           refine Y_move ?_
           refine XD_part 84 rfl (fun hc16 => ?_) (fun hc16 => ?_)
           ·skip
            refine Y_move ?_
            refine X_fs rfl rfl F.ok23 rfl (StIs_ok _ ⟨s_a, s_c, [x0]⟩ (k_s.mono (by (repeat first | assumption | refine Mem.le.trans (by assumption) ?_))) (fun h hh => (o_s h hh).mono (by (repeat first | assumption | refine Mem.le.trans (by assumption) ?_)))) rfl ?_
            rintro _ hv
            replace hv : _ = Value.bool (decide (IsSt (pls [x0]))) := hv
            rw [hs, decide_eq_true isst15] at hv
            subst hv
            refine Y_pick ?_
            refine Y_assign ?_
            refine XD_end ?_
            refine K_then ?_
            refine Y_pk [0] ?_
            refine C_ret ?_
            refine K_end (.inr rfl) (.tmp rfl .nil) (fun w hw => ?_)
            refine ⟨_, _, rfl, (by (repeat first | assumption | refine Mem.le.trans (by assumption) ?_)), hw.c, ?_⟩
            clear hw
            rfl
           ·skip
            (exfalso; simp [eqX] at hc16; done)
          ·skip
           (exfalso; simp [eqX] at hc13; done)
         ·skip
          (exfalso; simp [eqX] at hc12; done)
        ·skip
         simp only [AnswerV.eta, MarkV.eta, CellV.eta, HeldV.eta, PeerV.eta] at hc11
         (exfalso; simp [eqX] at hc11; done)
       ·replace hc10 := dF hc10
        (exfalso; omega)
      ·replace hc9 := dF hc9
       (exfalso; omega)

end Go.Proofs.Ytbafnjniijodfaa
/-
  The law of puts.
-/
set_option linter.unusedSimpArgs false
set_option linter.unusedVariables false
set_option linter.unnecessarySimpa false
set_option maxRecDepth 8000
set_option maxHeartbeats 1000000
namespace Go.Proofs.Ytbafnjniijodfaa
open Go.Esp
theorem F.ok11 : okFn Try.prog 11 = true := by kernel_rfl
theorem F.ok20 : okFn Try.prog 20 = true := by kernel_rfl
theorem F.ok21 : okFn Try.prog 21 = true := by kernel_rfl
theorem F.ok22 : okFn Try.prog 22 = true := by kernel_rfl

theorem findX_no {l : List HeldV} {k : Plc} {c : CellV} (h : findX l k = (c, false)) : c = CellV.zero := by
  unfold findX at h
  split at h <;> cases h
  rfl

theorem lawPuts_ok (M : Mem) (s : (Sl HeldV)) (t : (Sl HeldV)) (key : Plc) (c : CellV) (hs0 : SlK M HeldV.segs 24 s) (hs1 : ∀ y ∈ (s).l, HeldV.ok M y) (ht2 : SlK M HeldV.segs 24 t) (ht3 : ∀ y ∈ (t).l, HeldV.ok M y) (hc4 : CellV.ok M c) : Esp.Fn Try.prog 5 [Sl.val s, Sl.val t, aggV [idSeg key], c.enc] M (fun _ v => v = .bool true) := by
  obtain ⟨s_a, s_c, s_l⟩ := s
  obtain ⟨t_a, t_c, t_l⟩ := t
  obtain ⟨c_version, c_has, c_val, ⟨c_marks_a, c_marks_c, c_marks_l⟩⟩ := c
  have k_s : SlK M HeldV.segs 24 ⟨s_a, s_c, s_l⟩ := hs0
  have s_s : SlM M s_a (s_l.map HeldV.segs) 24 := k_s.h1
  have n_s : (s_l.map HeldV.segs).length = s_l.length := List.length_map ..
  have m_s : s_l.length ≤ 9223372036854775807 := k_s.h2
  have c_s : s_l.length ≤ s_c := k_s.h3
  have l_s : ∀ y ∈ s_l, HeldV.ok M y := hs1
  have k_t : SlK M HeldV.segs 24 ⟨t_a, t_c, t_l⟩ := ht2
  have s_t : SlM M t_a (t_l.map HeldV.segs) 24 := k_t.h1
  have n_t : (t_l.map HeldV.segs).length = t_l.length := List.length_map ..
  have m_t : t_l.length ≤ 9223372036854775807 := k_t.h2
  have c_t : t_l.length ≤ t_c := k_t.h3
  have l_t : ∀ y ∈ t_l, HeldV.ok M y := ht3
  have k_c_marks : SlK M MarkV.segs 6 ⟨c_marks_a, c_marks_c, c_marks_l⟩ := hc4.h0
  have s_c_marks : SlM M c_marks_a (c_marks_l.map MarkV.segs) 6 := k_c_marks.h1
  have n_c_marks : (c_marks_l.map MarkV.segs).length = c_marks_l.length := List.length_map ..
  have m_c_marks : c_marks_l.length ≤ 9223372036854775807 := k_c_marks.h2
  have c_c_marks : c_marks_l.length ≤ c_marks_c := k_c_marks.h3
  obtain ⟨⟨R1, e1⟩, hR1⟩ : ∃ x, putR (pls s_l) key (CellV.pl ⟨c_version, c_has, c_val, ⟨c_marks_a, c_marks_c, c_marks_l⟩⟩) = x := ⟨_, rfl⟩
  obtain ⟨⟨R2, e2⟩, hR2⟩ : ∃ x, blendR (pls s_l) (pls t_l) = x := ⟨_, rfl⟩
  obtain ⟨⟨xc, xb⟩, hx⟩ : ∃ r, findX s_l key = r := ⟨_, rfl⟩
  have okx : CellV.ok M xc := by
   cases xb
   ·have h9 := findX_no hx
    subst h9; exact CellV.zero_ok M
   ·obtain ⟨y9, g1, g2, g3⟩ := findX_mem (l := s_l) (k := key) (by rw [hx])
    rw [hx] at g3
    simp only at g3
    rw [← g3]; exact (l_s y9 g1).h0
  obtain ⟨x_v, x_h, x_s, ⟨x_a, x_c, x_l⟩⟩ := xc
  have okc : CellV.ok M ⟨c_version, c_has, c_val, ⟨c_marks_a, c_marks_c, c_marks_l⟩⟩ := hc4
  refine fn_enter Try.func5 rfl Try.ntmps5 rfl ?_; intro H
  refine C_seq ?_
  refine C_region (l := [0, 1, 2]) rfl ?_
  refine Y_box ?_; intro b1
  refine Y_box ?_; intro b2
  refine Y_assign ?_
  refine XD_end ?_
  refine K_then ?_
  refine Y_pk [8, 7, 6, 0, 1] ?_
  iterate 2 refine C_seq ?_
  refine C_region (l := [0, 1, 2, 3, 4, 5, 6, 7, 8, 9, 10, 11, 12, 13, 14, 15, 16, 17]) rfl ?_
  refine Y_move ?_
  refine X_fs rfl rfl F.ok15 rfl (BigS_ok _ ⟨s_a, s_c, s_l⟩ (k_s.mono (by exact Mem.le.refl _)) (fun y hy => (l_s y hy).mono (by exact Mem.le.refl _))) rfl ?_
  rintro _ ⟨bb22, rfl⟩
  refine Y_move ?_
  refine XD_part 23 rfl (fun hc3 => ?_) (fun hc3 => ?_)
  ·skip
   iterate 2 refine Y_skip ?_
   refine Y_pick ?_
   refine Y_move ?_
   iterate 2 refine Y_skip ?_
   refine Y_pick ?_
   refine Y_move ?_
   iterate 6 refine Y_skip ?_
   refine Y_pick ?_
   refine XD_end ?_
   refine K_then ?_
   refine Y_pk [38, 8, 7, 6, 0, 1] ?_
   refine C_true rfl ?_
   refine C_seq ?_
   refine C_region (l := [0]) rfl ?_
   refine Y_assign ?_
   refine XD_end ?_
   refine K_then ?_
   refine Y_pk [8, 7, 6, 0, 1] ?_
   refine C_ret ?_
   refine K_ret ?_
   refine K_end (.inr rfl) (.tmp rfl .nil) (fun w hw => ?_)
   refine ⟨_, _, rfl, (by exact Mem.le.refl _), hw.c, ?_⟩
   clear hw
   rfl
  ·skip
   refine Y_move ?_
   refine X_fs rfl rfl F.ok15 rfl (BigS_ok _ ⟨t_a, t_c, t_l⟩ (k_t.mono (by exact Mem.le.refl _)) (fun y hy => (l_t y hy).mono (by exact Mem.le.refl _))) rfl ?_
   rintro _ ⟨bb25, rfl⟩
   refine Y_pick ?_
   refine Y_move ?_
   refine XD_part 27 rfl (fun hc4 => ?_) (fun hc4 => ?_)
   ·skip
    iterate 2 refine Y_skip ?_
    refine Y_pick ?_
    refine Y_move ?_
    iterate 6 refine Y_skip ?_
    refine Y_pick ?_
    refine XD_end ?_
    refine K_then ?_
    refine Y_pk [38, 8, 7, 6, 0, 1] ?_
    refine C_true rfl ?_
    refine C_seq ?_
    refine C_region (l := [0]) rfl ?_
    refine Y_assign ?_
    refine XD_end ?_
    refine K_then ?_
    refine Y_pk [8, 7, 6, 0, 1] ?_
    refine C_ret ?_
    refine K_ret ?_
    refine K_end (.inr rfl) (.tmp rfl .nil) (fun w hw => ?_)
    refine ⟨_, _, rfl, (by exact Mem.le.refl _), hw.c, ?_⟩
    clear hw
    rfl
   ·skip
    refine Y_load F.lay37 ?_
    refine X_fs rfl rfl F.ok16 rfl (Big17_ok _ ⟨c_version, c_has, c_val, ⟨c_marks_a, c_marks_c, c_marks_l⟩⟩ (okc.mono (by exact Mem.le.refl _))) rfl ?_
    rintro _ ⟨bb, rfl⟩
    refine Y_pick ?_
    refine Y_move ?_
    refine XD_part 31 rfl (fun hc5 => ?_) (fun hc5 => ?_)
    ·skip
     iterate 6 refine Y_skip ?_
     refine Y_pick ?_
     refine XD_end ?_
     refine K_then ?_
     refine Y_pk [38, 8, 7, 6, 0, 1] ?_
     refine C_true rfl ?_
     refine C_seq ?_
     refine C_region (l := [0]) rfl ?_
     refine Y_assign ?_
     refine XD_end ?_
     refine K_then ?_
     refine Y_pk [8, 7, 6, 0, 1] ?_
     refine C_ret ?_
     refine K_ret ?_
     refine K_end (.inr rfl) (.tmp rfl .nil) (fun w hw => ?_)
     refine ⟨_, _, rfl, (by exact Mem.le.refl _), hw.c, ?_⟩
     clear hw
     rfl
    ·skip
     refine Y_move ?_
     refine Y_len_sl F.elem31 ?_
     refine Y_move ?_
     refine Y_len_sl F.elem31 ?_
     refine X_ari rfl rfl rfl rfl rfl (by exact rfl) rfl ?_
     refine Y_cmp ?_
     refine Y_pick ?_
     refine XD_end ?_
     refine K_then ?_
     refine Y_pk [38, 8, 7, 6, 0, 1] ?_
     refine C_cond rfl (fun hc6 => ?_) (fun hc6 => ?_)
     ·replace hc6 := dT hc6
      refine C_seq ?_
      refine C_region (l := [0]) rfl ?_
      refine Y_assign ?_
      refine XD_end ?_
      refine K_then ?_
      refine Y_pk [8, 7, 6, 0, 1] ?_
      refine C_ret ?_
      refine K_ret ?_
      refine K_end (.inr rfl) (.tmp rfl .nil) (fun w hw => ?_)
      refine ⟨_, _, rfl, (by exact Mem.le.refl _), hw.c, ?_⟩
      clear hw
      rfl
     ·replace hc6 := dF hc6
      refine C_skip ?_
      refine K_then ?_
      refine Y_pk [8, 7, 6, 0, 1] ?_
      refine C_seq ?_
      refine C_region (l := [0, 1, 2, 3, 4, 5, 6, 7, 8]) rfl ?_
      refine Y_move ?_
      refine Y_load F.lay33 ?_
      refine X_fs rfl rfl F.ok17 rfl (Find_ok _ ⟨s_a, s_c, s_l⟩ key (k_s.mono (by exact Mem.le.refl _)) (fun y hy => (l_s y hy).mono (by exact Mem.le.refl _))) rfl ?_
      rintro _ hv
      replace hv : _ = findXv (findX s_l key) := hv
      rw [hx] at hv
      subst hv
      refine Y_move ?_
      iterate 2 refine Y_extract ?_
      refine Y_alloc F.zero37 ?_; intro b7
      refine Y_store F.lay37 ?_
      refine Y_assign ?_
      refine XD_end ?_
      refine K_then ?_
      refine Y_pk [10, 9, 8, 7, 6, 0, 1] ?_
      refine C_seq ?_
      refine C_region (l := [0, 1, 2, 3, 4, 5, 6, 7, 8]) rfl ?_
      refine Y_move ?_
      refine Y_load F.lay33 ?_
      refine X_fs rfl rfl F.ok18 rfl (rFind_ok _ ⟨s_a, s_c, s_l⟩ key (k_s.mono (by exact Mem.le.refl _)) (fun y hy => (l_s y hy).mono (by exact Mem.le.refl _))) rfl ?_
      rintro _ hv
      replace hv : _ = findXv (findX s_l key) := hv
      rw [hx] at hv
      subst hv
      refine Y_move ?_
      iterate 2 refine Y_extract ?_
      refine Y_alloc F.zero37 ?_; intro b8
      refine Y_store F.lay37 ?_
      refine Y_assign ?_
      refine XD_end ?_
      refine K_then ?_
      refine Y_pk [12, 11, 10, 9, 8, 7, 6, 0, 1] ?_
      refine C_seq ?_
      refine C_region (l := [0, 1, 2, 3, 4, 5, 6, 7, 8]) rfl ?_
      refine Y_move ?_
      refine Y_load F.lay33 ?_
      refine Y_load F.lay37 ?_
      refine X_fn rfl rfl F.ok19 rfl (Put_ok _ ⟨s_a, s_c, s_l⟩ key ⟨c_version, c_has, c_val, ⟨c_marks_a, c_marks_c, c_marks_l⟩⟩ (k_s.mono (by exact Mem.le.refl _)) (fun y hy => (l_s y hy).mono (by exact Mem.le.refl _)) (okc.mono (by exact Mem.le.refl _))) rfl ?_
      rintro _ M1 hm1 hv
      replace hv : StE _ _ (putR (pls s_l) key (CellV.pl ⟨c_version, c_has, c_val, ⟨c_marks_a, c_marks_c, c_marks_l⟩⟩)) := hv
      rw [hR1] at hv
      obtain ⟨⟨x1_a, x1_c, x1_l⟩, rfl, g1, k1, o1⟩ := hv
      simp only at g1 o1
      refine Y_move ?_
      iterate 2 refine Y_extract ?_
      iterate 2 refine Y_assign ?_
      refine XD_end ?_
      refine K_then ?_
      refine Y_pk [14, 13, 12, 11, 10, 9, 8, 7, 6, 0, 1] ?_
      refine C_seq ?_
      refine C_region (l := [0, 1, 2, 3, 4, 5, 6, 7, 8]) rfl ?_
      refine Y_move ?_
      refine Y_load F.lay33 ?_
      refine Y_load F.lay37 ?_
      refine X_fn rfl rfl F.ok20 rfl (rPut_ok _ ⟨s_a, s_c, s_l⟩ key ⟨c_version, c_has, c_val, ⟨c_marks_a, c_marks_c, c_marks_l⟩⟩ (k_s.mono (by assumption)) (fun y hy => (l_s y hy).mono (by assumption)) (okc.mono (by assumption))) rfl ?_
      rintro _ M2 hm2 hv
      replace hv : StE _ _ (putR (pls s_l) key (CellV.pl ⟨c_version, c_has, c_val, ⟨c_marks_a, c_marks_c, c_marks_l⟩⟩)) := hv
      rw [hR1] at hv
      obtain ⟨⟨x2_a, x2_c, x2_l⟩, rfl, g2, k2, o2⟩ := hv
      simp only at g2 o2
      refine Y_move ?_
      iterate 2 refine Y_extract ?_
      iterate 2 refine Y_assign ?_
      refine XD_end ?_
      refine K_then ?_
      refine Y_pk [16, 15, 14, 13, 12, 11, 10, 9, 8, 0, 1] ?_
      refine C_seq ?_
      refine C_region (l := [0, 1, 2, 3, 4, 5, 6, 7]) rfl ?_
      iterate 2 refine Y_move ?_
      refine X_fn rfl rfl F.ok21 rfl (Blend_ok _ ⟨s_a, s_c, s_l⟩ ⟨t_a, t_c, t_l⟩ (k_s.mono (by (repeat first | assumption | refine Mem.le.trans (by assumption) ?_))) (fun y hy => (l_s y hy).mono (by (repeat first | assumption | refine Mem.le.trans (by assumption) ?_))) (k_t.mono (by (repeat first | assumption | refine Mem.le.trans (by assumption) ?_))) (fun y hy => (l_t y hy).mono (by (repeat first | assumption | refine Mem.le.trans (by assumption) ?_)))) rfl ?_
      rintro _ M3 hm3 hv
      replace hv : StE _ _ (blendR (pls s_l) (pls t_l)) := hv
      rw [hR2] at hv
      obtain ⟨⟨x3_a, x3_c, x3_l⟩, rfl, g3, k3, o3⟩ := hv
      simp only at g3 o3
      refine Y_move ?_
      iterate 2 refine Y_extract ?_
      iterate 2 refine Y_assign ?_
      refine XD_end ?_
      refine K_then ?_
      refine Y_pk [18, 17, 16, 15, 14, 13, 12, 11, 10, 9, 8, 0, 1] ?_
      refine C_seq ?_
      refine C_region (l := [0, 1, 2, 3, 4, 5, 6, 7]) rfl ?_
      iterate 2 refine Y_move ?_
      refine X_fn rfl rfl F.ok22 rfl (rBlend_ok _ ⟨s_a, s_c, s_l⟩ ⟨t_a, t_c, t_l⟩ (k_s.mono (by (repeat first | assumption | refine Mem.le.trans (by assumption) ?_))) (fun y hy => (l_s y hy).mono (by (repeat first | assumption | refine Mem.le.trans (by assumption) ?_))) (k_t.mono (by (repeat first | assumption | refine Mem.le.trans (by assumption) ?_))) (fun y hy => (l_t y hy).mono (by (repeat first | assumption | refine Mem.le.trans (by assumption) ?_)))) rfl ?_
      rintro _ M4 hm4 hv
      replace hv : StE _ _ (blendR (pls s_l) (pls t_l)) := hv
      rw [hR2] at hv
      obtain ⟨⟨x4_a, x4_c, x4_l⟩, rfl, g4, k4, o4⟩ := hv
      simp only at g4 o4
      refine Y_move ?_
      iterate 2 refine Y_extract ?_
      iterate 2 refine Y_assign ?_
      refine XD_end ?_
      refine K_then ?_
      refine Y_pk [20, 19, 18, 17, 16, 15, 14, 13, 12, 11, 10, 9, 8, 0] ?_
      refine C_seq ?_
      refine C_region (l := [0, 1, 2, 3, 4, 5, 6, 7, 8, 9, 10, 11, 12, 13, 14, 15, 16, 17, 18, 19, 20, 21, 22, 23, 24, 25, 26, 27, 28, 29, 30, 31, 32, 33, 34, 35, 36, 37, 38]) rfl ?_
      refine X_fn rfl rfl F.ok11 rfl (healed_ok _) rfl ?_
      rintro _ M9 hm9 rfl
      refine Y_move ?_
      refine XD_part 78 rfl (fun hc9 => ?_) (fun hc9 => ?_)
      ·skip
       simp only [AnswerV.eta, MarkV.eta, CellV.eta, HeldV.eta, PeerV.eta] at hc9
       refine Y_move ?_
       refine X_fs rfl rfl F.ok23 rfl (StIs_ok _ ⟨s_a, s_c, s_l⟩ (k_s.mono (by (repeat first | assumption | refine Mem.le.trans (by assumption) ?_))) (fun y hy => (l_s y hy).mono (by (repeat first | assumption | refine Mem.le.trans (by assumption) ?_)))) rfl ?_
       rintro _ rfl
       refine Y_move ?_
       refine X_fs rfl rfl F.ok24 rfl (rStIs_ok _ ⟨s_a, s_c, s_l⟩ (k_s.mono (by (repeat first | assumption | refine Mem.le.trans (by assumption) ?_))) (fun y hy => (l_s y hy).mono (by (repeat first | assumption | refine Mem.le.trans (by assumption) ?_)))) rfl ?_
       rintro _ rfl
       refine X_eqb rfl rfl rfl rfl rfl Try.underlying4 rfl ?_
       refine Y_pick ?_
       refine Y_move ?_
       refine XD_part 85 rfl (fun hc10 => ?_) (fun hc10 => ?_)
       ·replace hc10 := dT hc10
        simp only [AnswerV.eta, MarkV.eta, CellV.eta, HeldV.eta, PeerV.eta] at hc10
        iterate 2 refine Y_load F.lay37 ?_
        refine X_fs rfl rfl F.ok25 rfl (SameC_ok _ ⟨x_v, x_h, x_s, ⟨x_a, x_c, x_l⟩⟩ ⟨x_v, x_h, x_s, ⟨x_a, x_c, x_l⟩⟩ (okx.mono (by (repeat first | assumption | refine Mem.le.trans (by assumption) ?_))) (okx.mono (by (repeat first | assumption | refine Mem.le.trans (by assumption) ?_)))) rfl ?_
        rintro _ hv
        rw [decide_eq_true rfl] at hv
        subst hv
        refine Y_pick ?_
        refine Y_move ?_
        refine XD_part 90 rfl (fun hc11 => ?_) (fun hc11 => ?_)
        ·skip
         simp only [AnswerV.eta, MarkV.eta, CellV.eta, HeldV.eta, PeerV.eta] at hc11
         iterate 2 refine Y_move ?_
         refine X_eqb rfl rfl rfl rfl rfl Try.underlying4 rfl ?_
         refine Y_pick ?_
         refine Y_move ?_
         refine XD_part 95 rfl (fun hc12 => ?_) (fun hc12 => ?_)
         ·replace hc12 := dT hc12
          simp only [AnswerV.eta, MarkV.eta, CellV.eta, HeldV.eta, PeerV.eta] at hc12
          iterate 2 refine Y_move ?_
          refine X_fs rfl rfl F.ok26 rfl (SameS_ok _ ⟨x1_a, x1_c, x1_l⟩ ⟨x2_a, x2_c, x2_l⟩ (k1.mono (by (repeat first | assumption | refine Mem.le.trans (by assumption) ?_))) (fun y hy => (o1 y hy).mono (by (repeat first | assumption | refine Mem.le.trans (by assumption) ?_))) (k2.mono (by (repeat first | assumption | refine Mem.le.trans (by assumption) ?_))) (fun y hy => (o2 y hy).mono (by (repeat first | assumption | refine Mem.le.trans (by assumption) ?_)))) rfl ?_
          rintro _ hv
          rw [decide_eq_true (g1.trans g2.symm)] at hv
          subst hv
          refine Y_pick ?_
          refine Y_move ?_
          refine XD_part 100 rfl (fun hc13 => ?_) (fun hc13 => ?_)
          ·skip
           simp only [AnswerV.eta, MarkV.eta, CellV.eta, HeldV.eta, PeerV.eta] at hc13
           iterate 2 refine Y_move ?_
           refine Y_cmp ?_
           refine Y_pick ?_
           refine Y_move ?_
           refine XD_part 105 rfl (fun hc14 => ?_) (fun hc14 => ?_)
           ·replace hc14 := dT hc14
            simp only [AnswerV.eta, MarkV.eta, CellV.eta, HeldV.eta, PeerV.eta] at hc14
            iterate 2 refine Y_move ?_
            refine X_fs rfl rfl F.ok26 rfl (SameS_ok _ ⟨x3_a, x3_c, x3_l⟩ ⟨x4_a, x4_c, x4_l⟩ (k3.mono (by (repeat first | assumption | refine Mem.le.trans (by assumption) ?_))) (fun y hy => (o3 y hy).mono (by (repeat first | assumption | refine Mem.le.trans (by assumption) ?_))) (k4.mono (by assumption)) (fun y hy => (o4 y hy).mono (by assumption))) rfl ?_
            rintro _ hv
            rw [decide_eq_true (g3.trans g4.symm)] at hv
            subst hv
            refine Y_pick ?_
            refine Y_move ?_
            refine XD_part 110 rfl (fun hc15 => ?_) (fun hc15 => ?_)
            ·skip
             simp only [AnswerV.eta, MarkV.eta, CellV.eta, HeldV.eta, PeerV.eta] at hc15
             iterate 2 refine Y_move ?_
             refine Y_cmp ?_
             refine Y_pick ?_
             refine Y_assign ?_
             refine XD_end ?_
             refine K_then ?_
             refine Y_pk [8] ?_
             refine C_ret ?_
             refine K_end (.inr rfl) (.tmp rfl .nil) (fun w hw => ?_)
             refine ⟨_, _, rfl, (by (repeat first | assumption | refine Mem.le.trans (by assumption) ?_)), hw.c, ?_⟩
             clear hw
             (simp; rfl)
            ·skip
             (exfalso; simp [eqX] at hc15; done)
           ·replace hc14 := dF hc14
            simp only [AnswerV.eta, MarkV.eta, CellV.eta, HeldV.eta, PeerV.eta] at hc14
            (exfalso; simp [eqX] at hc14; done)
          ·skip
           (exfalso; simp [eqX] at hc13; done)
         ·replace hc12 := dF hc12
          simp only [AnswerV.eta, MarkV.eta, CellV.eta, HeldV.eta, PeerV.eta] at hc12
          (exfalso; simp [eqX] at hc12; done)
        ·skip
         (exfalso; simp [eqX] at hc11; done)
       ·replace hc10 := dF hc10
        simp only [AnswerV.eta, MarkV.eta, CellV.eta, HeldV.eta, PeerV.eta] at hc10
        (exfalso; simp [eqX] at hc10; done)
      ·skip
       (exfalso; simp [eqX] at hc9; done)

end Go.Proofs.Ytbafnjniijodfaa
