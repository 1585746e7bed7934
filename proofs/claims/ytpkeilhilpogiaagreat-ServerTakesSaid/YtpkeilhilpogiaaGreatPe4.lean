/-
  Texts of this claim, one behind the other: V1, V2, V3, ServM, V4, V5, V6, WholeL, HealL, V7, HealM, ServL.
-/
import Derived.Test.YtpkeilhilpogiaaGreatPe3
set_option linter.unusedSimpArgs false
set_option linter.unusedVariables false
set_option linter.unnecessarySimpa false
set_option maxRecDepth 8000
set_option maxHeartbeats 1000000
namespace Go.Proofs.YtpkeilhilpogiaaGreat
open Go.Esp
theorem F.bld31 : Bld Tryz.prog 31 [[.one (.int .i64 0)], [.one (.int .u64 0)], [.one (.int .i64 0)], [.one (.int .u64 0)], [.one (.string ⟨#[]⟩)]] := ⟨by kernel_rfl, by kernel_rfl⟩
theorem F.bld34 : Bld Tryz.prog 34 [[.one (.int .i64 0)], [.one (.int .u64 0)], [.one (.bool false)], [.one (.string ⟨#[]⟩)]] := ⟨by kernel_rfl, by kernel_rfl⟩
theorem F.elem121 : slOf Tryz.prog 121 = some (32, 1, 8) := by kernel_rfl
theorem F.foff31_0 : foff Tryz.prog 31 0 = some 0 := by kernel_rfl
theorem F.foff31_1 : foff Tryz.prog 31 1 = some 1 := by kernel_rfl
theorem F.foff31_2 : foff Tryz.prog 31 2 = some 2 := by kernel_rfl
theorem F.foff31_3 : foff Tryz.prog 31 3 = some 3 := by kernel_rfl
theorem F.foff31_4 : foff Tryz.prog 31 4 = some 4 := by kernel_rfl
theorem F.foff34_2 : foff Tryz.prog 34 2 = some 2 := by kernel_rfl
theorem F.foff39_0 : foff Tryz.prog 39 0 = some 0 := by kernel_rfl
theorem F.foff39_1 : foff Tryz.prog 39 1 = some 1 := by kernel_rfl
theorem F.foff39_2 : foff Tryz.prog 39 2 = some 2 := by kernel_rfl
theorem F.foff39_3 : foff Tryz.prog 39 3 = some 22 := by kernel_rfl
theorem F.foff39_4 : foff Tryz.prog 39 4 = some 27 := by kernel_rfl
theorem F.foff39_5 : foff Tryz.prog 39 5 = some 31 := by kernel_rfl
theorem F.foff39_6 : foff Tryz.prog 39 6 = some 32 := by kernel_rfl
theorem F.guard31 : Tryz.prog.eqGuardType Tryz.prog.depth 31 = false := by kernel_rfl
theorem F.guard34 : Tryz.prog.eqGuardType Tryz.prog.depth 34 = false := by kernel_rfl
theorem F.kinds31 : kindsOf Tryz.prog 20 31 = some [.i .i64, .i .u64, .i .i64, .i .u64, .s] := by kernel_rfl
theorem F.kinds34 : kindsOf Tryz.prog 20 34 = some [.i .i64, .i .u64, .b, .s] := by kernel_rfl
theorem F.lay31 : lay Tryz.prog 31 = some (true, 5) := by kernel_rfl
theorem F.ok106 : okFn Tryz.prog 106 = true := by kernel_rfl
theorem F.ok44 : okFn Tryz.prog 44 = true := by kernel_rfl
theorem F.ok45 : okFn Tryz.prog 45 = true := by kernel_rfl
theorem F.ok46 : okFn Tryz.prog 46 = true := by kernel_rfl
theorem F.ok66 : okFn Tryz.prog 66 = true := by kernel_rfl
theorem F.ok67 : okFn Tryz.prog 67 = true := by kernel_rfl
theorem F.ok68 : okFn Tryz.prog 68 = true := by kernel_rfl
theorem F.ok79 : okFn Tryz.prog 79 = true := by kernel_rfl
theorem F.ok81 : okFn Tryz.prog 81 = true := by kernel_rfl
theorem F.ok82 : okFn Tryz.prog 82 = true := by kernel_rfl
theorem F.zero31 : zeroOf Tryz.prog 31 = some (aggV [.one (.int .i64 0), .one (.int .u64 0), .one (.int .i64 0), .one (.int .u64 0), .one (.string ⟨#[]⟩)]) := by kernel_rfl
theorem F.zero32 : zeroOf Tryz.prog 32 = some ((.int .i64 0)) := by kernel_rfl
theorem IsOp_ok (M : Mem) (o : OpV) : Fs Tryz.prog 44 [o.enc] M (fun v => v = Value.bool (decide (IsOp o))) := by
  obtain ⟨Zcj, Zfl, Zee, Zdz, Zgj⟩ := o
  refine Zci Tryz.func44 rfl Tryz.ntmps44 rfl ?_; intro H
  refine Zj ?_; refine Za (l := [0, 1]) rfl ?_
  refine Zcz ?_; intro b1
  refine Zd ?_; refine Ze ?_; refine Zc ?_; refine Y_pk [2, 1] ?_
  iterate 2 refine Zj ?_
  refine Za (l := [0, 1, 2, 3, 4, 5, 6, 7]) rfl ?_; refine Zb F.foff31_0 ?_; refine Zi F.lay3 ?_; refine Zav ?_; refine Zf ?_
  refine Zag 6 rfl (fun hc2 => ?_) (fun hc2 => ?_)
  ·replace hc2 := dT hc2
   iterate 3 refine Zz ?_
   refine Zl ?_; refine Ze ?_; refine Zc ?_; refine Y_pk [10, 2, 1] ?_; refine Zcy rfl ?_; refine Zj ?_; refine Za (l := [0]) rfl ?_; refine Zd ?_; refine Ze ?_; refine Zc ?_; refine Y_pk [2, 1] ?_; refine Zak ?_; refine Zba ?_
   refine Zaj (.inr rfl) (.tmp rfl .nil) (fun w hw => ?_)
   refine ⟨_, rfl, (hw.c), ?_⟩
   clear hw
   refine congrArg Value.bool (a₁ := _) ?_
   grind [w64, IsOp, Zdu]
  ·replace hc2 := dF hc2
   refine Zb F.foff31_0 ?_; refine Zi F.lay3 ?_; refine Zav ?_; refine Zl ?_; refine Ze ?_; refine Zc ?_; refine Y_pk [10, 2, 1] ?_
   refine Zau rfl (fun hc3 => ?_) (fun hc3 => ?_)
   ·replace hc3 := dT hc3
    refine Zj ?_; refine Za (l := [0]) rfl ?_; refine Zd ?_; refine Ze ?_; refine Zc ?_; refine Y_pk [2, 1] ?_; refine Zak ?_; refine Zba ?_
    refine Zaj (.inr rfl) (.tmp rfl .nil) (fun w hw => ?_)
    refine ⟨_, rfl, (hw.c), ?_⟩
    clear hw
    refine congrArg Value.bool (a₁ := _) ?_
    grind [w64, IsOp, Zdu]
   ·replace hc3 := dF hc3
    refine Zax ?_; refine Zc ?_; refine Y_pk [2, 1] ?_
    iterate 2 refine Zj ?_
    refine Za (l := [0, 1]) rfl ?_; refine Zb F.foff31_2 ?_; refine Zi F.lay3 ?_; refine Ze ?_; refine Zc ?_; refine Y_pk [12, 2, 1] ?_; refine Zbe ?_; refine Zj ?_; refine Zbe ?_; refine Zj ?_; refine Zbe ?_; refine Zj ?_; refine Zbe ?_; refine Zj ?_; refine Zbe ?_
    iterate 3 refine Zj ?_
    refine Za (l := [0, 1]) rfl ?_; refine Zav ?_; refine Zd ?_; refine Ze ?_; refine Zc ?_; refine Y_pk [13, 12, 2, 1] ?_
    refine Zau rfl (fun hc4 => ?_) (fun hc4 => ?_)
    ·replace hc4 := dT hc4
     refine Zcm ?_
     iterate 2 refine Zcd ?_
     refine Zdl ?_; refine Zc ?_; refine Y_pk [2, 1] ?_; refine Zj ?_; refine Za (l := [0, 1, 2]) rfl ?_; refine Zb F.foff31_3 ?_; refine Zi F.lay22 ?_; refine Zav ?_; refine Ze ?_; refine Zc ?_; refine Y_pk [23, 2, 1] ?_
     refine Zau rfl (fun hc5 => ?_) (fun hc5 => ?_)
     ·replace hc5 := nT hc5
      refine Zj ?_; refine Za (l := [0]) rfl ?_; refine Zd ?_; refine Ze ?_; refine Zc ?_; refine Y_pk [2, 1] ?_; refine Zak ?_; refine Zbj ?_; refine Zba ?_; refine Zbj ?_; refine Zba ?_; refine Zbj ?_; refine Zba ?_; refine Zbj ?_; refine Zba ?_
      refine Zaj (.inr rfl) (.tmp rfl .nil) (fun w hw => ?_)
      refine ⟨_, rfl, (hw.c), ?_⟩
      clear hw
      refine congrArg Value.bool (a₁ := _) ?_
      grind [w64, IsOp, Zdu]
     ·replace hc5 := nF hc5
      refine Zax ?_; refine Zde ?_; refine Zc ?_; refine Y_pk [2, 1] ?_
      iterate 2 refine Zj ?_
      refine Za (l := [0, 1, 2, 3]) rfl ?_; refine Zb F.foff31_4 ?_; refine Zi F.lay9 ?_; refine Zgu ?_; refine Zd ?_; refine Ze ?_; refine Zc ?_; refine Y_pk [2, 1] ?_; refine Zak ?_; refine Zba ?_; refine Zbj ?_; refine Zba ?_; refine Zbj ?_; refine Zba ?_; refine Zbj ?_; refine Zba ?_
      refine Zaj (.inr rfl) (.tmp rfl .nil) (fun w hw => ?_)
      refine ⟨_, rfl, (hw.c), ?_⟩
      clear hw
      refine congrArg Value.bool (a₁ := _) ?_
      grind [w64, IsOp, Zdu]
    ·replace hc4 := dF hc4
     refine Zax ?_; refine Zc ?_; refine Y_pk [12, 2, 1] ?_
     iterate 2 refine Zj ?_
     refine Za (l := [0, 1]) rfl ?_; refine Zav ?_; refine Zd ?_; refine Ze ?_; refine Zc ?_; refine Y_pk [15, 12, 2, 1] ?_
     refine Zau rfl (fun hc6 => ?_) (fun hc6 => ?_)
     ·replace hc6 := dT hc6
      refine Zcm ?_
      iterate 2 refine Zcd ?_
      refine Zgr (by decide) ?_; refine Zcd ?_; refine Zdl ?_; refine Zc ?_; refine Y_pk [2, 1] ?_
      iterate 2 refine Zj ?_
      refine Za (l := [0, 1, 2, 3]) rfl ?_; refine Zb F.foff31_4 ?_; refine Zi F.lay9 ?_; refine Zgu ?_; refine Zd ?_; refine Ze ?_; refine Zc ?_; refine Y_pk [2, 1] ?_; refine Zak ?_; refine Zba ?_; refine Zbj ?_; refine Zba ?_; refine Zbj ?_; refine Zba ?_; refine Zbj ?_; refine Zba ?_
      refine Zaj (.inr rfl) (.tmp rfl .nil) (fun w hw => ?_)
      refine ⟨_, rfl, (hw.c), ?_⟩
      clear hw
      refine congrArg Value.bool (a₁ := _) ?_
      grind [w64, IsOp, Zdu]
     ·replace hc6 := dF hc6
      refine Zax ?_; refine Zc ?_; refine Y_pk [12, 2, 1] ?_
      iterate 2 refine Zj ?_
      refine Za (l := [0, 1]) rfl ?_; refine Zav ?_; refine Zd ?_; refine Ze ?_; refine Zc ?_; refine Y_pk [17, 12, 2, 1] ?_
      refine Zau rfl (fun hc7 => ?_) (fun hc7 => ?_)
      ·replace hc7 := dT hc7
       refine Zcm ?_
       iterate 2 refine Zcd ?_
       refine Zgr (by decide) ?_; refine Zcd ?_; refine Zgr (by decide) ?_; refine Zcd ?_; refine Zdl ?_; refine Zc ?_; refine Y_pk [2, 1] ?_; refine Zj ?_; refine Za (l := [0, 1, 2]) rfl ?_; refine Zb F.foff31_3 ?_; refine Zi F.lay22 ?_; refine Zav ?_; refine Ze ?_; refine Zc ?_; refine Y_pk [29, 2, 1] ?_
       refine Zau rfl (fun hc8 => ?_) (fun hc8 => ?_)
       ·replace hc8 := nT hc8
        refine Zj ?_; refine Za (l := [0]) rfl ?_; refine Zd ?_; refine Ze ?_; refine Zc ?_; refine Y_pk [2, 1] ?_; refine Zak ?_; refine Zbj ?_; refine Zba ?_; refine Zbj ?_; refine Zba ?_
        refine Zaj (.inr rfl) (.tmp rfl .nil) (fun w hw => ?_)
        refine ⟨_, rfl, (hw.c), ?_⟩
        clear hw
        refine congrArg Value.bool (a₁ := _) ?_
        grind [w64, IsOp, Zdu]
       ·replace hc8 := nF hc8
        refine Zax ?_; refine Zde ?_; refine Zc ?_; refine Y_pk [2, 1] ?_
        iterate 2 refine Zj ?_
        refine Za (l := [0, 1, 2, 3, 4]) rfl ?_; refine Zb F.foff31_4 ?_; refine Zi F.lay9 ?_; refine Zfj Tryz.underlying9 ?_; refine Zav ?_; refine Zd ?_; refine Ze ?_; refine Zc ?_; refine Y_pk [2] ?_; refine Zak ?_; refine Zba ?_; refine Zbj ?_; refine Zba ?_
        refine Zaj (.inr rfl) (.tmp rfl .nil) (fun w hw => ?_)
        refine ⟨_, rfl, (hw.c), ?_⟩
        clear hw
        refine congrArg Value.bool (a₁ := _) ?_
        grind [w64, IsOp, Zdu]
      ·replace hc7 := dF hc7
       refine Zax ?_; refine Zc ?_; refine Y_pk [12, 2, 1] ?_; refine Zj ?_; refine Za (l := [0, 1]) rfl ?_; refine Zav ?_; refine Zd ?_; refine Ze ?_; refine Zc ?_; refine Y_pk [19, 2, 1] ?_
       refine Zau rfl (fun hc9 => ?_) (fun hc9 => ?_)
       ·replace hc9 := dT hc9
        refine Zcm ?_; refine Zcd ?_; refine Zgr (by decide) ?_; refine Zcd ?_; refine Zgr (by decide) ?_; refine Zcd ?_; refine Zgr (by decide) ?_; refine Zcd ?_; refine Zdl ?_; refine Zc ?_; refine Y_pk [2, 1] ?_
        iterate 2 refine Zj ?_
        refine Za (l := [0, 1, 2, 3, 4]) rfl ?_; refine Zb F.foff31_4 ?_; refine Zi F.lay9 ?_; refine Zfj Tryz.underlying9 ?_; refine Zav ?_; refine Zd ?_; refine Ze ?_; refine Zc ?_; refine Y_pk [2] ?_; refine Zak ?_; refine Zba ?_; refine Zbj ?_; refine Zba ?_
        refine Zaj (.inr rfl) (.tmp rfl .nil) (fun w hw => ?_)
        refine ⟨_, rfl, (hw.c), ?_⟩
        clear hw
        refine congrArg Value.bool (a₁ := _) ?_
        grind [w64, IsOp, Zdu]
       ·replace hc9 := dF hc9
        refine Zax ?_; refine Zc ?_; refine Y_pk [2, 1] ?_; refine Zcm ?_; refine Zgr (by decide) ?_; refine Zcd ?_; refine Zgr (by decide) ?_; refine Zcd ?_; refine Zgr (by decide) ?_; refine Zcd ?_; refine Zgr (by decide) ?_; refine Zcd ?_; refine Zdl ?_; refine Zc ?_; refine Y_pk [2] ?_; refine Zj ?_; refine Za (l := [0]) rfl ?_; refine Zd ?_; refine Ze ?_; refine Zc ?_; refine Zak ?_
        refine Zaj (.inr rfl) (.tmp rfl .nil) (fun w hw => ?_)
        refine ⟨_, rfl, (hw.c), ?_⟩
        clear hw
        refine congrArg Value.bool (a₁ := _) ?_
        grind [w64, IsOp, Zdu]
theorem rIsOp_ok (M : Mem) (o : OpV) : Fs Tryz.prog 66 [o.enc] M (fun v => v = Value.bool (decide (IsOp o))) := by
  obtain ⟨Zcj, Zfl, Zee, Zdz, Zgj⟩ := o
  refine Zci Tryz.func66 rfl Tryz.ntmps66 rfl ?_; intro H
  refine Zj ?_; refine Za (l := [0, 1]) rfl ?_
  refine Zcz ?_; intro b1
  refine Zd ?_; refine Ze ?_; refine Zc ?_; refine Y_pk [2, 1] ?_
  iterate 2 refine Zj ?_
  refine Za (l := [0, 1, 2, 3, 4, 5, 6, 7, 8, 9, 10, 11, 12, 13, 14, 15, 16, 17, 18, 19, 20, 21, 22, 23]) rfl ?_; refine Zb F.foff31_0 ?_; refine Zi F.lay3 ?_; refine Zav ?_; refine Zf ?_
  refine Zag 7 rfl (fun hc2 => ?_) (fun hc2 => ?_)
  ·replace hc2 := dT hc2
   iterate 3 refine Zz ?_
   refine Zl ?_; refine Zf ?_
   iterate 3 refine Zz ?_
   refine Zl ?_; refine Zf ?_
   iterate 3 refine Zz ?_
   refine Zl ?_; refine Zf ?_
   iterate 4 refine Zz ?_
   refine Zl ?_; refine Ze ?_; refine Zc ?_; refine Y_pk [27, 2, 1] ?_; refine Zcy rfl ?_; refine Zj ?_; refine Za (l := [0]) rfl ?_; refine Zd ?_; refine Ze ?_; refine Zc ?_; refine Y_pk [2, 1] ?_; refine Zak ?_; refine Zba ?_
   refine Zaj (.inr rfl) (.tmp rfl .nil) (fun w hw => ?_)
   refine ⟨_, rfl, (hw.c), ?_⟩
   clear hw
   refine congrArg Value.bool (a₁ := _) ?_
   grind [w64, IsOp, Zdu]
  ·replace hc2 := dF hc2
   refine Zb F.foff31_0 ?_; refine Zi F.lay3 ?_; refine Zav ?_; refine Zl ?_; refine Zf ?_
   refine Zag 12 rfl (fun hc3 => ?_) (fun hc3 => ?_)
   ·replace hc3 := dT hc3
    iterate 3 refine Zz ?_
    refine Zl ?_; refine Zf ?_
    iterate 3 refine Zz ?_
    refine Zl ?_; refine Zf ?_
    iterate 4 refine Zz ?_
    refine Zl ?_; refine Ze ?_; refine Zc ?_; refine Y_pk [27, 2, 1] ?_; refine Zcy rfl ?_; refine Zj ?_; refine Za (l := [0]) rfl ?_; refine Zd ?_; refine Ze ?_; refine Zc ?_; refine Y_pk [2, 1] ?_; refine Zak ?_; refine Zba ?_
    refine Zaj (.inr rfl) (.tmp rfl .nil) (fun w hw => ?_)
    refine ⟨_, rfl, (hw.c), ?_⟩
    clear hw
    refine congrArg Value.bool (a₁ := _) ?_
    grind [w64, IsOp, Zdu]
   ·replace hc3 := dF hc3
    refine Zb F.foff31_2 ?_; refine Zi F.lay3 ?_; refine Zav ?_; refine Zl ?_; refine Zf ?_
    refine Zag 17 rfl (fun hc4 => ?_) (fun hc4 => ?_)
    ·replace hc4 := dT hc4
     iterate 3 refine Zz ?_
     refine Zl ?_; refine Zf ?_
     iterate 4 refine Zz ?_
     refine Zl ?_; refine Ze ?_; refine Zc ?_; refine Y_pk [27, 2, 1] ?_; refine Zcy rfl ?_; refine Zj ?_; refine Za (l := [0]) rfl ?_; refine Zd ?_; refine Ze ?_; refine Zc ?_; refine Y_pk [2, 1] ?_; refine Zak ?_; refine Zba ?_
     refine Zaj (.inr rfl) (.tmp rfl .nil) (fun w hw => ?_)
     refine ⟨_, rfl, (hw.c), ?_⟩
     clear hw
     refine congrArg Value.bool (a₁ := _) ?_
     grind [w64, IsOp, Zdu]
    ·replace hc4 := dF hc4
     refine Zb F.foff31_2 ?_; refine Zi F.lay3 ?_; refine Zav ?_; refine Zl ?_; refine Zf ?_
     refine Zag 22 rfl (fun hc5 => ?_) (fun hc5 => ?_)
     ·replace hc5 := dT hc5
      iterate 4 refine Zz ?_
      refine Zl ?_; refine Ze ?_; refine Zc ?_; refine Y_pk [27, 2, 1] ?_; refine Zcy rfl ?_; refine Zj ?_; refine Za (l := [0]) rfl ?_; refine Zd ?_; refine Ze ?_; refine Zc ?_; refine Y_pk [2, 1] ?_; refine Zak ?_; refine Zba ?_
      refine Zaj (.inr rfl) (.tmp rfl .nil) (fun w hw => ?_)
      refine ⟨_, rfl, (hw.c), ?_⟩
      clear hw
      refine congrArg Value.bool (a₁ := _) ?_
      grind [w64, IsOp, Zdu]
     ·replace hc5 := dF hc5
      refine Zb F.foff31_4 ?_; refine Zi F.lay9 ?_; refine Zfj Tryz.underlying9 ?_; refine Zav ?_; refine Zl ?_; refine Ze ?_; refine Zc ?_; refine Y_pk [27, 2, 1] ?_
      refine Zau rfl (fun hc6 => ?_) (fun hc6 => ?_)
      ·replace hc6 := dT hc6
       refine Zj ?_; refine Za (l := [0]) rfl ?_; refine Zd ?_; refine Ze ?_; refine Zc ?_; refine Y_pk [2, 1] ?_; refine Zak ?_; refine Zba ?_
       refine Zaj (.inr rfl) (.tmp rfl .nil) (fun w hw => ?_)
       refine ⟨_, rfl, (hw.c), ?_⟩
       clear hw
       refine congrArg Value.bool (a₁ := _) ?_
       grind [w64, IsOp, Zdu]
      ·replace hc6 := dF hc6
       refine Zax ?_; refine Zc ?_; refine Y_pk [2, 1] ?_; refine Zj ?_; refine Za (l := [0, 1, 2, 3]) rfl ?_; refine Zb F.foff31_2 ?_; refine Zi F.lay3 ?_; refine Zav ?_; refine Zd ?_; refine Ze ?_; refine Zc ?_; refine Y_pk [3, 2, 1] ?_; refine Zj ?_; refine Za (l := [0, 1, 2, 3, 4, 5, 6, 7, 8, 9, 10, 11, 12, 13, 14, 15, 16, 17, 18, 19, 20, 21, 22, 23, 24, 25, 26]) rfl ?_; refine Zb F.foff31_4 ?_; refine Zi F.lay9 ?_; refine Zgu ?_; refine Zf ?_
       refine Zag 34 rfl (fun hc7 => ?_) (fun hc7 => ?_)
       ·replace hc7 := dT hc7
        iterate 7 refine Zz ?_
        refine Zl ?_; refine Zf ?_; refine Zb F.foff31_3 ?_; refine Zi F.lay22 ?_; refine Zav ?_; refine Zf ?_
        refine Zag 47 rfl (fun hc8 => ?_) (fun hc8 => ?_)
        ·replace hc8 := dT hc8
         iterate 7 refine Zz ?_
         iterate 2 refine Zl ?_
         refine Zd ?_; refine Ze ?_; refine Zc ?_; refine Y_pk [2] ?_; refine Zak ?_
         refine Zaj (.inr rfl) (.tmp rfl .nil) (fun w hw => ?_)
         refine ⟨_, rfl, (hw.c), ?_⟩
         clear hw
         refine congrArg Value.bool (a₁ := _) ?_
         grind [w64, IsOp, Zdu]
        ·replace hc8 := dF hc8
         refine Zf ?_; refine Zel ?_; refine Zf ?_
         refine Zag 50 rfl (fun hc9 => ?_) (fun hc9 => ?_)
         ·replace hc9 := nT hc9
          refine Zb F.foff31_2 ?_; refine Zi F.lay3 ?_; refine Zav ?_
          iterate 3 refine Zl ?_
          refine Zd ?_; refine Ze ?_; refine Zc ?_; refine Y_pk [2] ?_; refine Zak ?_
          refine Zaj (.inr rfl) (.tmp rfl .nil) (fun w hw => ?_)
          refine ⟨_, rfl, (hw.c), ?_⟩
          clear hw
          refine congrArg Value.bool (a₁ := _) ?_
          grind [w64, IsOp, Zdu]
         ·replace hc9 := nF hc9
          iterate 3 refine Zz ?_
          iterate 3 refine Zl ?_
          refine Zd ?_; refine Ze ?_; refine Zc ?_; refine Y_pk [2] ?_; refine Zak ?_
          refine Zaj (.inr rfl) (.tmp rfl .nil) (fun w hw => ?_)
          refine ⟨_, rfl, (hw.c), ?_⟩
          clear hw
          refine congrArg Value.bool (a₁ := _) ?_
          grind [w64, IsOp, Zdu]
       ·replace hc7 := dF hc7
        refine Zf ?_; refine Zel ?_; refine Zf ?_
        refine Zag 37 rfl (fun hc10 => ?_) (fun hc10 => ?_)
        ·replace hc10 := nT hc10
         refine Zb F.foff31_2 ?_; refine Zi F.lay3 ?_; refine Zav ?_
         iterate 2 refine Zl ?_
         refine Zf ?_
         refine Zag 43 rfl (fun hc11 => ?_) (fun hc11 => ?_)
         ·replace hc11 := nT hc11
          refine Zb F.foff31_3 ?_; refine Zi F.lay22 ?_; refine Zav ?_; refine Zf ?_
          refine Zag 47 rfl (fun hc12 => ?_) (fun hc12 => ?_)
          ·replace hc12 := dT hc12
           iterate 7 refine Zz ?_
           iterate 2 refine Zl ?_
           refine Zd ?_; refine Ze ?_; refine Zc ?_; refine Y_pk [2] ?_; refine Zak ?_
           refine Zaj (.inr rfl) (.tmp rfl .nil) (fun w hw => ?_)
           refine ⟨_, rfl, (hw.c), ?_⟩
           clear hw
           refine congrArg Value.bool (a₁ := _) ?_
           grind [w64, IsOp, Zdu]
          ·replace hc12 := dF hc12
           refine Zf ?_; refine Zel ?_; refine Zf ?_
           refine Zag 50 rfl (fun hc13 => ?_) (fun hc13 => ?_)
           ·replace hc13 := nT hc13
            refine Zb F.foff31_2 ?_; refine Zi F.lay3 ?_; refine Zav ?_
            iterate 3 refine Zl ?_
            refine Zd ?_; refine Ze ?_; refine Zc ?_; refine Y_pk [2] ?_; refine Zak ?_
            refine Zaj (.inr rfl) (.tmp rfl .nil) (fun w hw => ?_)
            refine ⟨_, rfl, (hw.c), ?_⟩
            clear hw
            refine congrArg Value.bool (a₁ := _) ?_
            grind [w64, IsOp, Zdu]
           ·replace hc13 := nF hc13
            (exfalso; omega)
         ·replace hc11 := nF hc11
          iterate 12 refine Zz ?_
          refine Zl ?_; refine Zd ?_; refine Ze ?_; refine Zc ?_; refine Y_pk [2] ?_; refine Zak ?_
          refine Zaj (.inr rfl) (.tmp rfl .nil) (fun w hw => ?_)
          refine ⟨_, rfl, (hw.c), ?_⟩
          clear hw
          refine congrArg Value.bool (a₁ := _) ?_
          grind [w64, IsOp, Zdu]
        ·replace hc10 := nF hc10
         iterate 3 refine Zz ?_
         iterate 2 refine Zl ?_
         refine Zf ?_
         iterate 12 refine Zz ?_
         refine Zl ?_; refine Zd ?_; refine Ze ?_; refine Zc ?_; refine Y_pk [2] ?_; refine Zak ?_
         refine Zaj (.inr rfl) (.tmp rfl .nil) (fun w hw => ?_)
         refine ⟨_, rfl, (hw.c), ?_⟩
         clear hw
         refine congrArg Value.bool (a₁ := _) ?_
         grind [w64, IsOp, Zdu]
theorem pbare_ok (M : Mem) (c : CellV) (hc0 : CellV.ok M c) : Fs Tryz.prog 45 [c.enc] M (fun v => v = Value.bool (decide (Bare c.pl))) := by
  obtain ⟨Zbg, Zdv, Zdx, ⟨Zbi, Zbh, Zu⟩⟩ := c
  have Zbs : SlK M MarkV.segs 6 ⟨Zbi, Zbh, Zu⟩ := hc0.h0
  have s_c_marks : SlM M Zbi (Zu.map MarkV.segs) 6 := Zbs.h1
  have n_c_marks : (Zu.map MarkV.segs).length = Zu.length := List.length_map ..
  have m_c_marks : Zu.length ≤ 9223372036854775807 := Zbs.h2
  have c_c_marks : Zu.length ≤ Zbh := Zbs.h3
  refine Zci Tryz.func45 rfl Tryz.ntmps45 rfl ?_; intro H
  refine Zj ?_; refine Za (l := [0, 1]) rfl ?_
  refine Zcz ?_; intro b1
  refine Zd ?_; refine Ze ?_; refine Zc ?_; refine Y_pk [2, 1] ?_; refine Zj ?_; refine Za (l := [0, 1, 2, 3, 4, 5, 6, 7, 8, 9, 10, 11, 12, 13, 14, 15, 16, 17, 18, 19]) rfl ?_; refine Zb F.foff37_0 ?_; refine Zi F.lay22 ?_; refine Zav ?_; refine Zf ?_
  refine Zag 6 rfl (fun hc2 => ?_) (fun hc2 => ?_)
  ·replace hc2 := dT hc2
   refine Zb F.foff37_1 ?_; refine Zi F.lay4 ?_; refine Zel ?_; refine Zl ?_; refine Zf ?_
   refine Zag 11 rfl (fun hc3 => ?_) (fun hc3 => ?_)
   ·skip
    refine Zb F.foff37_2 ?_; refine Zi F.lay9 ?_; refine Zgu ?_; refine Zl ?_; refine Zf ?_
    refine Zag 16 rfl (fun hc4 => ?_) (fun hc4 => ?_)
    ·replace hc4 := dT hc4
     refine Zb F.foff37_3 ?_; refine Zi F.lay35 ?_; refine Zbb F.elem35 ?_; refine Zav ?_; refine Zl ?_; refine Zd ?_; refine Ze ?_; refine Zc ?_; refine Y_pk [2] ?_; refine Zak ?_
     refine Zaj (.inr rfl) (.tmp rfl .nil) (fun w hw => ?_)
     refine ⟨_, rfl, (hw.c), ?_⟩
     clear hw
     refine congrArg Value.bool (a₁ := _) ?_
     grind [w64, Bare, CellV.pl, List.length_eq_zero_iff]
    ·replace hc4 := dF hc4
     iterate 4 refine Zz ?_
     refine Zl ?_; refine Zd ?_; refine Ze ?_; refine Zc ?_; refine Y_pk [2] ?_; refine Zak ?_
     refine Zaj (.inr rfl) (.tmp rfl .nil) (fun w hw => ?_)
     refine ⟨_, rfl, (hw.c), ?_⟩
     clear hw
     refine congrArg Value.bool (a₁ := _) ?_
     grind [w64, Bare, CellV.pl, List.length_eq_zero_iff]
   ·skip
    iterate 3 refine Zz ?_
    refine Zl ?_; refine Zf ?_
    iterate 4 refine Zz ?_
    refine Zl ?_; refine Zd ?_; refine Ze ?_; refine Zc ?_; refine Y_pk [2] ?_; refine Zak ?_
    refine Zaj (.inr rfl) (.tmp rfl .nil) (fun w hw => ?_)
    refine ⟨_, rfl, (hw.c), ?_⟩
    clear hw
    refine congrArg Value.bool (a₁ := _) ?_
    grind [w64, Bare, CellV.pl, List.length_eq_zero_iff]
  ·replace hc2 := dF hc2
   iterate 3 refine Zz ?_
   refine Zl ?_; refine Zf ?_
   iterate 3 refine Zz ?_
   refine Zl ?_; refine Zf ?_
   iterate 4 refine Zz ?_
   refine Zl ?_; refine Zd ?_; refine Ze ?_; refine Zc ?_; refine Y_pk [2] ?_; refine Zak ?_
   refine Zaj (.inr rfl) (.tmp rfl .nil) (fun w hw => ?_)
   refine ⟨_, rfl, (hw.c), ?_⟩
   clear hw
   refine congrArg Value.bool (a₁ := _) ?_
   grind [w64, Bare, CellV.pl, List.length_eq_zero_iff]
theorem rbare_ok (M : Mem) (c : CellV) (hc0 : CellV.ok M c) : Fs Tryz.prog 67 [c.enc] M (fun v => v = Value.bool (decide (Bare c.pl))) := by
  obtain ⟨Zbg, Zdv, Zdx, ⟨Zbi, Zbh, Zu⟩⟩ := c
  have Zbs : SlK M MarkV.segs 6 ⟨Zbi, Zbh, Zu⟩ := hc0.h0
  have s_c_marks : SlM M Zbi (Zu.map MarkV.segs) 6 := Zbs.h1
  have n_c_marks : (Zu.map MarkV.segs).length = Zu.length := List.length_map ..
  have m_c_marks : Zu.length ≤ 9223372036854775807 := Zbs.h2
  have c_c_marks : Zu.length ≤ Zbh := Zbs.h3
  refine Zci Tryz.func67 rfl Tryz.ntmps67 rfl ?_; intro H
  refine Zj ?_; refine Za (l := [0, 1]) rfl ?_
  refine Zcz ?_; intro b1
  refine Zd ?_; refine Ze ?_; refine Zc ?_; refine Y_pk [2, 1] ?_; refine Zj ?_; refine Za (l := [0, 1, 2, 3]) rfl ?_; refine Zi F.lay37 ?_; refine Zbv rfl rfl F.bld37 (.nil) rfl rfl ?_; refine X_fs rfl rfl F.ok79 rfl (SameC_ok _ ⟨_, _, _, ⟨_, _, _⟩⟩ CellV.zero hc0 (CellV.zero_ok M)) rfl ?_
  rintro _ rfl
  refine Zd ?_; refine Ze ?_; refine Zc ?_; refine Y_pk [2] ?_; refine Zak ?_
  refine Zaj (.inr rfl) (.tmp rfl .nil) (fun w hw => ?_)
  refine ⟨_, rfl, (hw.c), ?_⟩
  clear hw
  refine congrArg Value.bool (decide_eq_decide.2 ?_)
  exact bare_zero.symm
theorem rA_ok (M : Mem) (a : AnswerV) : Fs Tryz.prog 68 [a.enc] M (fun v => v = Value.bool (decide (OkAnswer a))) := by
  obtain ⟨a_code, Zcw, Zfw, Zfv⟩ := a
  refine Zci Tryz.func68 rfl Tryz.ntmps68 rfl ?_; intro H
  refine Zj ?_; refine Za (l := [0, 1]) rfl ?_
  refine Zcz ?_; intro b1
  refine Zd ?_; refine Ze ?_; refine Zc ?_; refine Y_pk [2, 1] ?_; refine Zj ?_; refine Za (l := [0, 1, 2, 3, 4, 5, 6, 7, 8, 9, 10, 11, 12, 13, 14, 15, 16, 17, 18]) rfl ?_; refine Zb F.foff34_0 ?_; refine Zi F.lay32 ?_; refine Zav ?_; refine Zf ?_
  refine Zag 7 rfl (fun hc2 => ?_) (fun hc2 => ?_)
  ·replace hc2 := dT hc2
   iterate 3 refine Zz ?_
   refine Zl ?_; refine Zf ?_
   iterate 3 refine Zz ?_
   refine Zl ?_; refine Zf ?_
   iterate 3 refine Zz ?_
   refine Zl ?_; refine Zd ?_; refine Ze ?_; refine Zc ?_; refine Y_pk [3, 2, 1] ?_; refine Zj ?_; refine Za (l := [0, 1, 2, 3, 4, 5, 6, 7, 8, 9, 10, 11, 12, 13, 14, 15, 16]) rfl ?_
   iterate 2 refine Zf ?_
   refine Zb F.foff34_3 ?_; refine Zi F.lay9 ?_; refine Zfj Tryz.underlying9 ?_; refine Zav ?_; refine Zl ?_; refine Zf ?_
   refine Zag 29 rfl (fun hc3 => ?_) (fun hc3 => ?_)
   ·replace hc3 := dT hc3
    refine Zb F.foff34_2 ?_; refine Zi F.lay4 ?_; refine Zf ?_
    refine Zag 32 rfl (fun hc4 => ?_) (fun hc4 => ?_)
    ·skip
     iterate 3 refine Zz ?_
     iterate 2 refine Zl ?_
     refine Zd ?_; refine Ze ?_; refine Zc ?_; refine Y_pk [2] ?_; refine Zak ?_
     refine Zaj (.inr rfl) (.tmp rfl .nil) (fun w hw => ?_)
     refine ⟨_, rfl, (hw.c), ?_⟩
     clear hw
     refine congrArg Value.bool (a₁ := _) ?_
     grind [w64, OkAnswer]
    ·skip
     refine Zb F.foff34_3 ?_; refine Zi F.lay9 ?_; refine Zgu ?_
     iterate 2 refine Zl ?_
     refine Zd ?_; refine Ze ?_; refine Zc ?_; refine Y_pk [2] ?_; refine Zak ?_
     refine Zaj (.inr rfl) (.tmp rfl .nil) (fun w hw => ?_)
     refine ⟨_, rfl, (hw.c), ?_⟩
     clear hw
     refine congrArg Value.bool (a₁ := _) ?_
     grind [w64, OkAnswer]
   ·replace hc3 := dF hc3
    iterate 7 refine Zz ?_
    refine Zl ?_; refine Zd ?_; refine Ze ?_; refine Zc ?_; refine Y_pk [2] ?_; refine Zak ?_
    refine Zaj (.inr rfl) (.tmp rfl .nil) (fun w hw => ?_)
    refine ⟨_, rfl, (hw.c), ?_⟩
    clear hw
    refine congrArg Value.bool (a₁ := _) ?_
    grind [w64, OkAnswer]
  ·replace hc2 := dF hc2
   refine Zb F.foff34_0 ?_; refine Zi F.lay32 ?_; refine Zav ?_; refine Zl ?_; refine Zf ?_
   refine Zag 12 rfl (fun hc5 => ?_) (fun hc5 => ?_)
   ·replace hc5 := dT hc5
    iterate 3 refine Zz ?_
    refine Zl ?_; refine Zf ?_
    iterate 3 refine Zz ?_
    refine Zl ?_; refine Zd ?_; refine Ze ?_; refine Zc ?_; refine Y_pk [3, 2, 1] ?_; refine Zj ?_; refine Za (l := [0, 1, 2, 3, 4, 5, 6, 7, 8, 9, 10, 11, 12, 13, 14, 15, 16]) rfl ?_
    iterate 2 refine Zf ?_
    refine Zb F.foff34_3 ?_; refine Zi F.lay9 ?_; refine Zfj Tryz.underlying9 ?_; refine Zav ?_; refine Zl ?_; refine Zf ?_
    refine Zag 29 rfl (fun hc6 => ?_) (fun hc6 => ?_)
    ·replace hc6 := dT hc6
     refine Zb F.foff34_2 ?_; refine Zi F.lay4 ?_; refine Zf ?_
     refine Zag 32 rfl (fun hc7 => ?_) (fun hc7 => ?_)
     ·skip
      iterate 3 refine Zz ?_
      iterate 2 refine Zl ?_
      refine Zd ?_; refine Ze ?_; refine Zc ?_; refine Y_pk [2] ?_; refine Zak ?_
      refine Zaj (.inr rfl) (.tmp rfl .nil) (fun w hw => ?_)
      refine ⟨_, rfl, (hw.c), ?_⟩
      clear hw
      refine congrArg Value.bool (a₁ := _) ?_
      grind [w64, OkAnswer]
     ·skip
      refine Zb F.foff34_3 ?_; refine Zi F.lay9 ?_; refine Zgu ?_
      iterate 2 refine Zl ?_
      refine Zd ?_; refine Ze ?_; refine Zc ?_; refine Y_pk [2] ?_; refine Zak ?_
      refine Zaj (.inr rfl) (.tmp rfl .nil) (fun w hw => ?_)
      refine ⟨_, rfl, (hw.c), ?_⟩
      clear hw
      refine congrArg Value.bool (a₁ := _) ?_
      grind [w64, OkAnswer]
    ·replace hc6 := dF hc6
     iterate 7 refine Zz ?_
     refine Zl ?_; refine Zd ?_; refine Ze ?_; refine Zc ?_; refine Y_pk [2] ?_; refine Zak ?_
     refine Zaj (.inr rfl) (.tmp rfl .nil) (fun w hw => ?_)
     refine ⟨_, rfl, (hw.c), ?_⟩
     clear hw
     refine congrArg Value.bool (a₁ := _) ?_
     grind [w64, OkAnswer]
   ·replace hc5 := dF hc5
    refine Zb F.foff34_0 ?_; refine Zi F.lay32 ?_; refine Zav ?_; refine Zl ?_; refine Zf ?_
    refine Zag 17 rfl (fun hc8 => ?_) (fun hc8 => ?_)
    ·replace hc8 := dT hc8
     iterate 3 refine Zz ?_
     refine Zl ?_; refine Zd ?_; refine Ze ?_; refine Zc ?_; refine Y_pk [3, 2, 1] ?_; refine Zj ?_; refine Za (l := [0, 1, 2, 3, 4, 5, 6, 7, 8, 9, 10, 11, 12, 13, 14, 15, 16]) rfl ?_
     iterate 2 refine Zf ?_
     refine Zb F.foff34_3 ?_; refine Zi F.lay9 ?_; refine Zfj Tryz.underlying9 ?_; refine Zav ?_; refine Zl ?_; refine Zf ?_
     refine Zag 29 rfl (fun hc9 => ?_) (fun hc9 => ?_)
     ·replace hc9 := dT hc9
      refine Zb F.foff34_2 ?_; refine Zi F.lay4 ?_; refine Zf ?_
      refine Zag 32 rfl (fun hc10 => ?_) (fun hc10 => ?_)
      ·skip
       iterate 3 refine Zz ?_
       iterate 2 refine Zl ?_
       refine Zd ?_; refine Ze ?_; refine Zc ?_; refine Y_pk [2] ?_; refine Zak ?_
       refine Zaj (.inr rfl) (.tmp rfl .nil) (fun w hw => ?_)
       refine ⟨_, rfl, (hw.c), ?_⟩
       clear hw
       refine congrArg Value.bool (a₁ := _) ?_
       grind [w64, OkAnswer]
      ·skip
       refine Zb F.foff34_3 ?_; refine Zi F.lay9 ?_; refine Zgu ?_
       iterate 2 refine Zl ?_
       refine Zd ?_; refine Ze ?_; refine Zc ?_; refine Y_pk [2] ?_; refine Zak ?_
       refine Zaj (.inr rfl) (.tmp rfl .nil) (fun w hw => ?_)
       refine ⟨_, rfl, (hw.c), ?_⟩
       clear hw
       refine congrArg Value.bool (a₁ := _) ?_
       grind [w64, OkAnswer]
     ·replace hc9 := dF hc9
      iterate 7 refine Zz ?_
      refine Zl ?_; refine Zd ?_; refine Ze ?_; refine Zc ?_; refine Y_pk [2] ?_; refine Zak ?_
      refine Zaj (.inr rfl) (.tmp rfl .nil) (fun w hw => ?_)
      refine ⟨_, rfl, (hw.c), ?_⟩
      clear hw
      refine congrArg Value.bool (a₁ := _) ?_
      grind [w64, OkAnswer]
    ·replace hc8 := dF hc8
     refine Zb F.foff34_0 ?_; refine Zi F.lay32 ?_; refine Zav ?_; refine Zl ?_; refine Zd ?_; refine Ze ?_; refine Zc ?_; refine Y_pk [3, 2, 1] ?_; refine Zj ?_; refine Za (l := [0, 1, 2, 3, 4, 5, 6, 7, 8, 9, 10, 11, 12, 13, 14, 15, 16]) rfl ?_
     iterate 2 refine Zf ?_
     refine Zag 23 rfl (fun hc11 => ?_) (fun hc11 => ?_)
     ·replace hc11 := dT hc11
      refine Zb F.foff34_3 ?_; refine Zi F.lay9 ?_; refine Zfj Tryz.underlying9 ?_; refine Zav ?_; refine Zl ?_; refine Zf ?_
      refine Zag 29 rfl (fun hc12 => ?_) (fun hc12 => ?_)
      ·replace hc12 := dT hc12
       refine Zb F.foff34_2 ?_; refine Zi F.lay4 ?_; refine Zf ?_
       refine Zag 32 rfl (fun hc13 => ?_) (fun hc13 => ?_)
       ·skip
        iterate 3 refine Zz ?_
        iterate 2 refine Zl ?_
        refine Zd ?_; refine Ze ?_; refine Zc ?_; refine Y_pk [2] ?_; refine Zak ?_
        refine Zaj (.inr rfl) (.tmp rfl .nil) (fun w hw => ?_)
        refine ⟨_, rfl, (hw.c), ?_⟩
        clear hw
        refine congrArg Value.bool (a₁ := _) ?_
        grind [w64, OkAnswer]
       ·skip
        refine Zb F.foff34_3 ?_; refine Zi F.lay9 ?_; refine Zgu ?_
        iterate 2 refine Zl ?_
        refine Zd ?_; refine Ze ?_; refine Zc ?_; refine Y_pk [2] ?_; refine Zak ?_
        refine Zaj (.inr rfl) (.tmp rfl .nil) (fun w hw => ?_)
        refine ⟨_, rfl, (hw.c), ?_⟩
        clear hw
        refine congrArg Value.bool (a₁ := _) ?_
        grind [w64, OkAnswer]
      ·replace hc12 := dF hc12
       iterate 7 refine Zz ?_
       refine Zl ?_; refine Zd ?_; refine Ze ?_; refine Zc ?_; refine Y_pk [2] ?_; refine Zak ?_
       refine Zaj (.inr rfl) (.tmp rfl .nil) (fun w hw => ?_)
       refine ⟨_, rfl, (hw.c), ?_⟩
       clear hw
       refine congrArg Value.bool (a₁ := _) ?_
       grind [w64, OkAnswer]
     ·replace hc11 := dF hc11
      iterate 4 refine Zz ?_
      refine Zl ?_; refine Zf ?_
      iterate 7 refine Zz ?_
      refine Zl ?_; refine Zd ?_; refine Ze ?_; refine Zc ?_; refine Y_pk [2] ?_; refine Zak ?_
      refine Zaj (.inr rfl) (.tmp rfl .nil) (fun w hw => ?_)
      refine ⟨_, rfl, (hw.c), ?_⟩
      clear hw
      refine congrArg Value.bool (a₁ := _) ?_
      grind [w64, OkAnswer]
theorem codes_ok (M : Mem) (b : Nat) : Fh Tryz.prog 82 [.slice (some ⟨b, 0, none⟩) 2 2] M [(b, .cells (rowsCells [oneI .i64 7, oneI .i64 9]).toArray 32 (0, 0))] (fun M' v Hout => M' = M ∧ OSl 32 1 v Hout [oneI .i64 0, oneI .i64 8, oneI .i64 7, oneI .i64 9]) := by
  refine Zfg Tryz.func82 rfl Tryz.ntmps82 rfl ?_; intro H
  refine Zj ?_; refine Za (l := [0]) rfl ?_; refine Zd ?_; refine Ze ?_; refine Zc ?_; refine Zj ?_; refine Za (l := [0, 1, 2, 3]) rfl ?_
  refine Zbt rfl rfl F.elem121 F.zero32 rfl rfl (.cons rfl (by constructor) (.cons rfl (by constructor) .nil)) rfl rfl (by simp only [List.map_cons, List.map_nil] <;> rfl) rfl ?_; intro b1 hob2
  refine Zf ?_
  refine Zdn (m := 1000000) rfl rfl rfl rfl rfl F.elem121 F.zero32 (by rfl) rfl (by assumption) (by repeat first | exact Rem.here _ | exact Rem.two | apply Rem.skip | apply Rem.over) (Src.own (E := 32) (news := [oneI .i64 7, oneI .i64 9]) (by simp [lens, oneI, Segs.len, Seg.len]) (by simp [rowsCells, oneI, Segs.cells, Seg.cells, Value.oneCell']) rfl (by repeat first | exact List.Mem.head _ | refine List.Mem.tail _ ?_ | refine List.mem_append_right _ ?_)) (by (simp; done)) (by decide) rfl ?_; intro v5 hs4 ho3; obtain ⟨adv5, cpv5, rfl⟩ := ho3.val
  refine Zd ?_; refine Ze ?_; refine Zc ?_; refine Y_pk [2] ?_; refine Zak ?_
  refine Zaj (.inr rfl) (.tmp rfl .nil) (fun w hw => ?_)
  exact ⟨_, M, hs4, rfl, Mem.le.refl M, hw.c, rfl, ho3⟩
theorem IndexE_rd (M : Mem) (Hin : Hp) (l : Sl Int) (x : Int) (hl : RdS M Hin l.a (l.l.map (oneI .i64)) 1) (bl : l.l.length ≤ 9223372036854775807) : Fo Tryz.prog 106 [l.val, .int .i64 x] M Hin (fun M' v => M' = M ∧ v = .int .i64 (idxI x l.l)) := by
  have nl : (l.l.map (oneI .i64)).length = l.l.length := List.length_map ..
  refine Zfq Tryz.func106 rfl Tryz.ntmps106 rfl ?_; intro H
  have hrd := hl.app H
  refine Zj ?_; refine Za (l := [0]) rfl ?_; refine Zd ?_; refine Ze ?_; refine Zc ?_
  iterate 2 refine Zj ?_
  refine Za (l := [0, 1, 2]) rfl ?_; refine Zf ?_; refine Zbb F.elem121 ?_; refine Zf ?_; refine Ze ?_; refine Zc ?_; refine Y_pk [8, 7, 4, 0, 1] ?_; refine Zbe ?_; refine Y_pk [8, 7, 4, 0, 1] ?_; refine Zed (.succ .zero) (fun (k : Nat) z => z = [(8, .int .i64 (k : Int))] ∧ k ≤ l.l.length ∧ (x ∉ l.l.take k)) (fun k => l.l.length - k) (0) (⟨rfl, by omega, by simp⟩) ?_
  rintro k _ ⟨rfl, hk, hI⟩
  refine Zj ?_; refine Za (l := [0]) rfl ?_; refine Zav ?_; refine Ze ?_; refine Zc ?_; refine Zj ?_
  refine Zau rfl (fun hc1 => ?_) (fun hc1 => ?_)
  ·replace hc1 := dT hc1
   refine Zax ?_; refine Zc ?_; refine Zj ?_; refine Zbe ?_; refine Zj ?_; refine Za (l := [0, 1]) rfl ?_; refine Zf ?_; refine Zd ?_; refine Ze ?_; refine Zc ?_; refine Zj ?_; refine Za (l := [0, 1, 2, 3, 4, 5]) rfl ?_
   iterate 3 refine Zf ?_
   refine Zaa rfl rfl rfl rfl F.elem121 (by rfl) (by omega) (by exact RdS.plain (by assumption) (by (simp; omega))) rfl ?_; refine X_load_rd rfl rfl rfl (by assumption) (by exact Zbl (by omega)) F.lay32 rfl rfl rfl ?_; refine Zav ?_; refine Ze ?_; refine Zc ?_
   refine Zau rfl (fun hc2 => ?_) (fun hc2 => ?_)
   ·replace hc2 := dT hc2
    refine Zj ?_; refine Za (l := [0, 1]) rfl ?_; refine Zf ?_; refine Zd ?_; refine Ze ?_; refine Zc ?_; refine Zak ?_; refine Zbj ?_
    iterate 2 refine Zba ?_
    refine Zbj ?_; refine Zba ?_
    refine Zaj (.inr rfl) (.tmp rfl .nil) (fun w hw => ?_)
    refine ⟨_, M, rfl, Mem.le.refl M, hw.c, rfl, ?_⟩
    refine congrArg (Value.int .i64) ?_
    exact (idxI_at (by omega) hI (by assumption)).symm
   ·replace hc2 := dF hc2
    refine Zax ?_; refine Zde ?_; refine Zc ?_; refine Za (l := [0, 1]) rfl ?_; refine Zcc rfl rfl rfl rfl rfl (by exact Zbf (by decide) (by omega)) rfl ?_; refine Zf ?_; refine Ze ?_; refine Zda (a' := [(8, _)]) (k + 1) (.cons (k := 8) rfl (.cons (k := 7) rfl (.cons (k := 4) rfl (.cons (k := 0) rfl (.cons (k := 1) rfl (.nil)))))) (fun w hw => by first | exact hw | exact hw.c) ?_ ?_
    ·refine ⟨rfl, by omega, ?_⟩
     exact not_take_succ (by omega) hI (by assumption)
    ·omega
  ·replace hc1 := dF hc1
   refine Zcm ?_
   iterate 2 refine Zcd ?_
   refine Zdl ?_; refine Zc ?_; refine Y_pk [4] ?_; refine Zj ?_; refine Za (l := [0]) rfl ?_; refine Zd ?_; refine Ze ?_; refine Zc ?_; refine Zak ?_
   refine Zaj (.inr rfl) (.tmp rfl .nil) (fun w hw => ?_)
   refine ⟨_, M, rfl, Mem.le.refl M, hw.c, rfl, ?_⟩
   refine congrArg (Value.int .i64) ?_
   (have hk9 : k = l.l.length := (by omega); subst hk9; rw [List.take_length] at hI; exact (idxI_none hI).symm)
theorem ContainsE_rd (M : Mem) (Hin : Hp) (l : Sl Int) (x : Int) (hl : RdS M Hin l.a (l.l.map (oneI .i64)) 1) (bl : l.l.length ≤ 9223372036854775807) : Fo Tryz.prog 81 [l.val, .int .i64 x] M Hin (fun M' v => M' = M ∧ v = .bool (decide (x ∈ l.l))) := by
  refine Zfq Tryz.func81 rfl Tryz.ntmps81 rfl ?_; intro H
  refine Zj ?_; refine Za (l := [0]) rfl ?_; refine Zd ?_; refine Ze ?_; refine Zc ?_; refine Zj ?_; refine Za (l := [0, 1, 2, 3, 4]) rfl ?_
  iterate 2 refine Zf ?_
  refine X_fo rfl rfl F.ok106 rfl (IndexE_rd _ Hin ⟨_, _, _⟩ _ hl bl) (by repeat first | exact Rem.here _ | exact Rem.two | apply Rem.skip | apply Rem.over) (Zbq rfl) ?_
  rintro _ M1 _ ⟨hM1, rfl⟩; subst M1
  refine Zav ?_; refine Zd ?_; refine Ze ?_; refine Zc ?_; refine Y_pk [4] ?_; refine Zak ?_
  refine Zaj (.inr rfl) (.tmp rfl .nil) (fun w hw => ?_)
  exact ⟨_, M, rfl, Mem.le.refl M, hw.c, rfl, congrArg Value.bool (by simp [idxI_nn])⟩
theorem pA_ok (M : Mem) (a : AnswerV) : Fs Tryz.prog 46 [a.enc] M (fun v => v = Value.bool (decide (OkAnswer a))) := by
  obtain ⟨a_code, Zcw, Zfw, Zfv⟩ := a
  refine Zci Tryz.func46 rfl Tryz.ntmps46 rfl ?_; intro H
  refine Zj ?_; refine Za (l := [0, 1]) rfl ?_
  refine Zcz ?_; intro b1
  refine Zd ?_; refine Ze ?_; refine Zc ?_; refine Y_pk [2, 1] ?_; refine Zj ?_; refine Zar (l := [0, 1, 2, 3, 4, 5, 6, 7, 8, 9, 10, 11, 12, 13, 14, 15, 16, 17, 18, 19, 20]) #[0, 1, 0, 4, 15, 31, 63, 127, 255, 511, 1023, 2047, 4095, 8191, 16383, 32767, 65535, 131071, 262143, 524287, 1048575] _ rfl (by kernel_rfl) (by kernel_rfl) St.drawn (fun _ h => h) ?_
  refine Zbt rfl rfl F.elem121 F.zero32 rfl rfl (.cons rfl (by constructor) (.cons rfl (by constructor) .nil)) rfl rfl (by simp only [List.map_cons, List.map_nil] <;> rfl) rfl ?_; intro b2 hob3
  refine Zgy rfl rfl F.ok82 rfl (codes_ok M _) (by repeat first | exact Rem.here _ | exact Rem.two | apply Rem.skip | apply Rem.over) (fun _ _ _ hm hw => (hw.lower (by exact hm)).c) (Zbq rfl) ?_
  rintro _ M1 hs1 _ ⟨hM1, ho1⟩; subst M1
  obtain ⟨ad1, cp1, rfl⟩ := ho1.val
  refine Zb F.foff34_0 ?_; refine Zi F.lay32 ?_; refine X_fo rfl rfl F.ok81 rfl (ContainsE_rd _ hs1 ⟨_, _, [0, 8, 7, 9]⟩ _ (OSl.rd ho1 _) (by simp)) (by repeat first | exact Rem.here _ | exact Rem.two | apply Rem.skip | apply Rem.over) (Zbq rfl) ?_
  rintro _ M1 _ ⟨hM1, rfl⟩; subst M1
  refine Zf ?_
  refine Zag 8 rfl (fun hc4 => ?_) (fun hc4 => ?_)
  ·replace hc4 := dT hc4
   simp only [AnswerV.eta, MarkV.eta, CellV.eta, HeldV.eta, WaitV.eta, ServerV.eta, PeerV.eta, OpV.eta, ParcelV.eta, PostV.eta, WorkerV.eta] at hc4
   refine Zb F.foff34_3 ?_; refine Zi F.lay9 ?_; refine Zfj Tryz.underlying9 ?_; refine Zav ?_; refine Zl ?_; refine Zf ?_
   refine Zag 14 rfl (fun hc5 => ?_) (fun hc5 => ?_)
   ·replace hc5 := dT hc5
    refine Zb F.foff34_2 ?_; refine Zi F.lay4 ?_; refine Zf ?_
    refine Zag 17 rfl (fun hc6 => ?_) (fun hc6 => ?_)
    ·skip
     iterate 3 refine Zz ?_
     iterate 2 refine Zl ?_
     refine Zd ?_; refine Ze ?_; refine Zc ?_; refine Y_pk [2] ?_; refine Zak ?_
     refine Zaj (.inr rfl) (.tmp rfl .nil) (fun w hw => ?_)
     refine ⟨_, rfl, (hw.c), ?_⟩
     clear hw
     refine congrArg Value.bool (a₁ := _) ?_
     grind [w64, OkAnswer]
    ·skip
     refine Zb F.foff34_3 ?_; refine Zi F.lay9 ?_; refine Zgu ?_
     iterate 2 refine Zl ?_
     refine Zd ?_; refine Ze ?_; refine Zc ?_; refine Y_pk [2] ?_; refine Zak ?_
     refine Zaj (.inr rfl) (.tmp rfl .nil) (fun w hw => ?_)
     refine ⟨_, rfl, (hw.c), ?_⟩
     clear hw
     refine congrArg Value.bool (a₁ := _) ?_
     grind [w64, OkAnswer]
   ·replace hc5 := dF hc5
    iterate 7 refine Zz ?_
    refine Zl ?_; refine Zd ?_; refine Ze ?_; refine Zc ?_; refine Y_pk [2] ?_; refine Zak ?_
    refine Zaj (.inr rfl) (.tmp rfl .nil) (fun w hw => ?_)
    refine ⟨_, rfl, (hw.c), ?_⟩
    clear hw
    refine congrArg Value.bool (a₁ := _) ?_
    grind [w64, OkAnswer]
  ·replace hc4 := dF hc4
   simp only [AnswerV.eta, MarkV.eta, CellV.eta, HeldV.eta, WaitV.eta, ServerV.eta, PeerV.eta, OpV.eta, ParcelV.eta, PostV.eta, WorkerV.eta] at hc4
   iterate 4 refine Zz ?_
   refine Zl ?_; refine Zf ?_
   iterate 7 refine Zz ?_
   refine Zl ?_; refine Zd ?_; refine Ze ?_; refine Zc ?_; refine Y_pk [2] ?_; refine Zak ?_
   refine Zaj (.inr rfl) (.tmp rfl .nil) (fun w hw => ?_)
   refine ⟨_, rfl, (hw.c), ?_⟩
   clear hw
   refine congrArg Value.bool (a₁ := _) ?_
   grind [w64, OkAnswer]
theorem pIs_ok (M : Mem) (p : ParcelV) (hp0 : ParcelV.ok M p) : Fs Tryz.prog 18 [p.enc] M (fun v => v = Value.bool (decide (IsPrc p.pl))) := by
  obtain ⟨Zbx, Zbm, Zbr, ⟨Zv, Zao, Zap, Zy, Zbc⟩, ⟨Zab, Zt, Zae, Zad⟩, Zbd, ⟨Zs, Zai, Zah, ⟨Zn, Zm, Zk⟩⟩⟩ := p
  have k_p_cell : CellV.ok M ⟨Zs, Zai, Zah, ⟨Zn, Zm, Zk⟩⟩ := hp0.h0
  have Zbu : SlK M MarkV.segs 6 ⟨Zn, Zm, Zk⟩ := hp0.h0.h0
  have s_p_cell_marks : SlM M Zn (Zk.map MarkV.segs) 6 := Zbu.h1
  have n_p_cell_marks : (Zk.map MarkV.segs).length = Zk.length := List.length_map ..
  have m_p_cell_marks : Zk.length ≤ 9223372036854775807 := Zbu.h2
  have c_p_cell_marks : Zk.length ≤ Zm := Zbu.h3
  refine Zci Tryz.func18 rfl Tryz.ntmps18 rfl ?_; intro H
  refine Zj ?_; refine Za (l := [0, 1]) rfl ?_
  refine Zcz ?_; intro b1
  refine Zd ?_; refine Ze ?_; refine Zc ?_; refine Y_pk [2, 1] ?_; refine Zj ?_; refine Za (l := [0, 1, 2, 3, 4, 5, 6, 7, 8]) rfl ?_; refine Zb F.foff39_3 ?_; refine Zb F.foff31_0 ?_; refine Zi F.lay3 ?_; refine Zb F.foff39_3 ?_; refine Zb F.foff31_1 ?_; refine Zi F.lay22 ?_; refine Zbv rfl rfl F.bld31 (.cons rfl (by constructor) (.cons rfl (by constructor) .nil)) rfl rfl ?_
  refine Zby F.zero31 ?_; intro b2
  refine Zas F.lay31 ?_; refine Ze ?_; refine Zc ?_; refine Y_pk [3, 2, 1] ?_; refine Zj ?_; refine Zar (l := [0, 1, 2, 3, 4, 5, 6, 7, 8, 9, 10, 11, 12, 13, 14]) #[0, 1, 0, 7, 0, 16, 0, 112, 0, 256, 0, 1792, 15, 4351, 16383] _ rfl (by kernel_rfl) (by kernel_rfl) St.drawn (fun _ h => h) ?_; refine Zb F.foff39_2 ?_; refine Zi F.lay29 ?_; refine X_build0 rfl rfl F.zero29 F.arr29 rfl ?_
  refine Zfx (m := 20) rfl rfl rfl rfl rfl (by constructor) (by constructor) F.lay29 F.kinds29 rfl F.guard29 (Zga Zez) (Zga Zez) rfl rfl rfl ?_; intro c3 he4
  replace he4 : c3 = true ↔ Segs.cells _ = Segs.cells _ := he4
  obtain rfl := eqD he4 (Zfu (x := _) (y := _)); clear he4
  refine Zb F.foff39_3 ?_; refine Zi F.lay31 ?_; refine Zbv rfl rfl F.bld31 (.nil) rfl rfl ?_
  refine Zfx (m := 20) rfl rfl rfl rfl rfl (by constructor) (by constructor) F.lay31 F.kinds31 rfl F.guard31 (by exact FitOpV (⟨_, _, _, _, _⟩)) (by exact FitOpV (⟨_, _, _, _, _⟩)) rfl rfl rfl ?_; intro c5 he6
  replace he6 : c5 = true ↔ Segs.cells _ = Segs.cells _ := he6
  obtain rfl := eqD he6 (OpV.inj (x := ⟨_, _, _, _, _⟩) (y := ⟨_, _, _, _, _⟩)); clear he6
  refine Zb F.foff39_4 ?_; refine Zi F.lay34 ?_; refine Zbv rfl rfl F.bld34 (.nil) rfl rfl ?_
  refine Zfx (m := 20) rfl rfl rfl rfl rfl (by constructor) (by constructor) F.lay34 F.kinds34 rfl F.guard34 (by exact FitAnswerV (⟨_, _, _, _⟩)) (by exact FitAnswerV (⟨_, _, _, _⟩)) rfl rfl rfl ?_; intro c7 he8
  replace he8 : c7 = true ↔ Segs.cells _ = Segs.cells _ := he8
  obtain rfl := eqD he8 (AnswerV.inj (x := ⟨_, _, _, _⟩) (y := ⟨_, _, _, _⟩)); clear he8
  iterate 3 refine Zd ?_
  refine Ze ?_; refine Zc ?_; refine Y_pk [6, 5, 4, 3, 2, 1] ?_
  iterate 2 refine Zj ?_
  refine Za (l := [0, 1]) rfl ?_; refine Zb F.foff39_0 ?_; refine Zi F.lay3 ?_; refine Ze ?_; refine Zc ?_; refine Y_pk [27, 6, 5, 4, 3, 2, 1] ?_; refine Zbe ?_; refine Zj ?_; refine Za (l := [0, 1]) rfl ?_; refine Zav ?_; refine Zd ?_; refine Ze ?_; refine Zc ?_; refine Y_pk [28, 27, 6, 5, 4, 3, 2, 1] ?_
  refine Zau rfl (fun hc9 => ?_) (fun hc9 => ?_)
  ·replace hc9 := dT hc9
   refine Zj ?_; refine Za (l := [0, 1, 2, 3, 4, 5, 6, 7, 8, 9, 10, 11, 12, 13, 14, 15, 16]) rfl ?_; refine Zb F.foff39_3 ?_; refine Zi F.lay31 ?_; refine X_fs rfl rfl F.ok44 rfl (IsOp_ok _ ⟨_, _, _, _, _⟩) rfl ?_
   rintro _ rfl
   refine Zf ?_
   refine Zag 33 rfl (fun hc10 => ?_) (fun hc10 => ?_)
   ·replace hc10 := dT hc10
    refine Zf ?_; refine Zl ?_; refine Zf ?_
    refine Zag 36 rfl (fun hc11 => ?_) (fun hc11 => ?_)
    ·replace hc11 := dT hc11
     refine Zb F.foff39_5 ?_; refine Zi F.lay22 ?_; refine Zav ?_; refine Zl ?_; refine Zf ?_
     refine Zag 41 rfl (fun hc12 => ?_) (fun hc12 => ?_)
     ·replace hc12 := dT hc12
      refine Zb F.foff39_6 ?_; refine Zi F.lay37 ?_; refine X_fs rfl rfl F.ok45 rfl (pbare_ok _ ⟨_, _, _, ⟨_, _, _⟩⟩ (by assumption)) rfl ?_
      rintro _ rfl
      refine Zl ?_; refine Zd ?_; refine Ze ?_; refine Zc ?_; refine Y_pk [2] ?_; refine Zak ?_; refine Zbj ?_; refine Zba ?_
      refine Zaj (.inr rfl) (.tmp rfl .nil) (fun w hw => ?_)
      refine ⟨_, rfl, (hw.c), ?_⟩
      clear hw
      refine congrArg Value.bool (a₁ := _) ?_
      grind [w64, IsPrc, ParcelV.pl, AnswerV.zero, OpV.zero]
     ·replace hc12 := dF hc12
      iterate 3 refine Zz ?_
      refine Zl ?_; refine Zd ?_; refine Ze ?_; refine Zc ?_; refine Y_pk [2] ?_; refine Zak ?_; refine Zbj ?_; refine Zba ?_
      refine Zaj (.inr rfl) (.tmp rfl .nil) (fun w hw => ?_)
      refine ⟨_, rfl, (hw.c), ?_⟩
      clear hw
      refine congrArg Value.bool (a₁ := _) ?_
      grind [w64, IsPrc, ParcelV.pl, AnswerV.zero, OpV.zero]
    ·replace hc11 := dF hc11
     iterate 3 refine Zz ?_
     refine Zl ?_; refine Zf ?_
     iterate 3 refine Zz ?_
     refine Zl ?_; refine Zd ?_; refine Ze ?_; refine Zc ?_; refine Y_pk [2] ?_; refine Zak ?_; refine Zbj ?_; refine Zba ?_
     refine Zaj (.inr rfl) (.tmp rfl .nil) (fun w hw => ?_)
     refine ⟨_, rfl, (hw.c), ?_⟩
     clear hw
     refine congrArg Value.bool (a₁ := _) ?_
     grind [w64, IsPrc, ParcelV.pl, AnswerV.zero, OpV.zero]
   ·replace hc10 := dF hc10
    refine Zz ?_; refine Zl ?_; refine Zf ?_
    iterate 3 refine Zz ?_
    refine Zl ?_; refine Zf ?_
    iterate 3 refine Zz ?_
    refine Zl ?_; refine Zd ?_; refine Ze ?_; refine Zc ?_; refine Y_pk [2] ?_; refine Zak ?_; refine Zbj ?_; refine Zba ?_
    refine Zaj (.inr rfl) (.tmp rfl .nil) (fun w hw => ?_)
    refine ⟨_, rfl, (hw.c), ?_⟩
    clear hw
    refine congrArg Value.bool (a₁ := _) ?_
    grind [w64, IsPrc, ParcelV.pl, AnswerV.zero, OpV.zero]
  ·replace hc9 := dF hc9
   refine Zj ?_; refine Za (l := [0, 1]) rfl ?_; refine Zav ?_; refine Zd ?_; refine Ze ?_; refine Zc ?_; refine Y_pk [46, 27, 6, 5, 4, 3, 2, 1] ?_
   refine Zau rfl (fun hc13 => ?_) (fun hc13 => ?_)
   ·replace hc13 := dT hc13
    refine Zj ?_; refine Za (l := [0, 1, 2, 3, 4, 5, 6, 7, 8, 9, 10, 11, 12, 13, 14, 15, 16, 17, 18, 19, 20, 21, 22, 23, 24, 25, 26, 27, 28, 29, 30, 31, 32]) rfl ?_
    iterate 2 refine Zf ?_
    refine Zag 49 rfl (fun hc14 => ?_) (fun hc14 => ?_)
    ·replace hc14 := dT hc14
     refine Zb F.foff39_3 ?_
     iterate 2 refine Zi F.lay31 ?_
     refine Zfx (m := 20) rfl rfl rfl rfl rfl (by constructor) (by constructor) F.lay31 F.kinds31 rfl F.guard31 (by exact FitOpV (⟨_, _, _, _, _⟩)) (by exact FitOpV (⟨_, _, _, _, _⟩)) rfl rfl rfl ?_; intro c15 he16
     replace he16 : c15 = true ↔ Segs.cells _ = Segs.cells _ := he16
     obtain rfl := eqD he16 (OpV.inj (x := ⟨_, _, _, _, _⟩) (y := ⟨_, _, _, _, _⟩)); clear he16
     refine Zl ?_; refine Zf ?_
     refine Zag 55 rfl (fun hc17 => ?_) (fun hc17 => ?_)
     ·replace hc17 := dT hc17
      refine Zb F.foff31_0 ?_; refine Zi F.lay3 ?_; refine Zav ?_; refine Zl ?_; refine Zf ?_
      refine Zag 60 rfl (fun hc18 => ?_) (fun hc18 => ?_)
      ·replace hc18 := dT hc18
       refine Zb F.foff31_0 ?_; refine Zi F.lay3 ?_; refine Zav ?_; refine Zl ?_; refine Zf ?_
       refine Zag 65 rfl (fun hc19 => ?_) (fun hc19 => ?_)
       ·replace hc19 := dT hc19
        refine Zb F.foff39_4 ?_; refine Zi F.lay34 ?_; refine X_fs rfl rfl F.ok46 rfl (pA_ok _ ⟨_, _, _, _⟩) rfl ?_
        rintro _ rfl
        refine Zl ?_; refine Zf ?_
        refine Zag 70 rfl (fun hc20 => ?_) (fun hc20 => ?_)
        ·replace hc20 := dT hc20
         refine Zb F.foff39_5 ?_; refine Zi F.lay22 ?_; refine Zav ?_; refine Zl ?_; refine Zf ?_
         refine Zag 75 rfl (fun hc21 => ?_) (fun hc21 => ?_)
         ·replace hc21 := dT hc21
          refine Zb F.foff39_6 ?_; refine Zi F.lay37 ?_; refine X_fs rfl rfl F.ok45 rfl (pbare_ok _ ⟨_, _, _, ⟨_, _, _⟩⟩ (by assumption)) rfl ?_
          rintro _ rfl
          refine Zl ?_; refine Zd ?_; refine Ze ?_; refine Zc ?_; refine Y_pk [2] ?_; refine Zak ?_; refine Zbj ?_; refine Zba ?_
          refine Zaj (.inr rfl) (.tmp rfl .nil) (fun w hw => ?_)
          refine ⟨_, rfl, (hw.c), ?_⟩
          clear hw
          refine congrArg Value.bool (a₁ := _) ?_
          grind [w64, IsPrc, ParcelV.pl, AnswerV.zero, OpV.zero]
         ·replace hc21 := dF hc21
          iterate 3 refine Zz ?_
          refine Zl ?_; refine Zd ?_; refine Ze ?_; refine Zc ?_; refine Y_pk [2] ?_; refine Zak ?_; refine Zbj ?_; refine Zba ?_
          refine Zaj (.inr rfl) (.tmp rfl .nil) (fun w hw => ?_)
          refine ⟨_, rfl, (hw.c), ?_⟩
          clear hw
          refine congrArg Value.bool (a₁ := _) ?_
          grind [w64, IsPrc, ParcelV.pl, AnswerV.zero, OpV.zero]
        ·replace hc20 := dF hc20
         iterate 3 refine Zz ?_
         refine Zl ?_; refine Zf ?_
         iterate 3 refine Zz ?_
         refine Zl ?_; refine Zd ?_; refine Ze ?_; refine Zc ?_; refine Y_pk [2] ?_; refine Zak ?_; refine Zbj ?_; refine Zba ?_
         refine Zaj (.inr rfl) (.tmp rfl .nil) (fun w hw => ?_)
         refine ⟨_, rfl, (hw.c), ?_⟩
         clear hw
         refine congrArg Value.bool (a₁ := _) ?_
         grind [w64, IsPrc, ParcelV.pl, AnswerV.zero, OpV.zero]
       ·replace hc19 := dF hc19
        iterate 3 refine Zz ?_
        refine Zl ?_; refine Zf ?_
        iterate 3 refine Zz ?_
        refine Zl ?_; refine Zf ?_
        iterate 3 refine Zz ?_
        refine Zl ?_; refine Zd ?_; refine Ze ?_; refine Zc ?_; refine Y_pk [2] ?_; refine Zak ?_; refine Zbj ?_; refine Zba ?_
        refine Zaj (.inr rfl) (.tmp rfl .nil) (fun w hw => ?_)
        refine ⟨_, rfl, (hw.c), ?_⟩
        clear hw
        refine congrArg Value.bool (a₁ := _) ?_
        grind [w64, IsPrc, ParcelV.pl, AnswerV.zero, OpV.zero]
      ·replace hc18 := dF hc18
       iterate 3 refine Zz ?_
       refine Zl ?_; refine Zf ?_
       iterate 3 refine Zz ?_
       refine Zl ?_; refine Zf ?_
       iterate 3 refine Zz ?_
       refine Zl ?_; refine Zf ?_
       iterate 3 refine Zz ?_
       refine Zl ?_; refine Zd ?_; refine Ze ?_; refine Zc ?_; refine Y_pk [2] ?_; refine Zak ?_; refine Zbj ?_; refine Zba ?_
       refine Zaj (.inr rfl) (.tmp rfl .nil) (fun w hw => ?_)
       refine ⟨_, rfl, (hw.c), ?_⟩
       clear hw
       refine congrArg Value.bool (a₁ := _) ?_
       grind [w64, IsPrc, ParcelV.pl, AnswerV.zero, OpV.zero]
     ·replace hc17 := dF hc17
      iterate 3 refine Zz ?_
      refine Zl ?_; refine Zf ?_
      iterate 3 refine Zz ?_
      refine Zl ?_; refine Zf ?_
      iterate 3 refine Zz ?_
      refine Zl ?_; refine Zf ?_
      iterate 3 refine Zz ?_
      refine Zl ?_; refine Zf ?_
      iterate 3 refine Zz ?_
      refine Zl ?_; refine Zd ?_; refine Ze ?_; refine Zc ?_; refine Y_pk [2] ?_; refine Zak ?_; refine Zbj ?_; refine Zba ?_
      refine Zaj (.inr rfl) (.tmp rfl .nil) (fun w hw => ?_)
      refine ⟨_, rfl, (hw.c), ?_⟩
      clear hw
      refine congrArg Value.bool (a₁ := _) ?_
      grind [w64, IsPrc, ParcelV.pl, AnswerV.zero, OpV.zero]
    ·replace hc14 := dF hc14
     iterate 4 refine Zz ?_
     refine Zl ?_; refine Zf ?_
     iterate 3 refine Zz ?_
     refine Zl ?_; refine Zf ?_
     iterate 3 refine Zz ?_
     refine Zl ?_; refine Zf ?_
     iterate 3 refine Zz ?_
     refine Zl ?_; refine Zf ?_
     iterate 3 refine Zz ?_
     refine Zl ?_; refine Zf ?_
     iterate 3 refine Zz ?_
     refine Zl ?_; refine Zd ?_; refine Ze ?_; refine Zc ?_; refine Y_pk [2] ?_; refine Zak ?_; refine Zbj ?_; refine Zba ?_
     refine Zaj (.inr rfl) (.tmp rfl .nil) (fun w hw => ?_)
     refine ⟨_, rfl, (hw.c), ?_⟩
     clear hw
     refine congrArg Value.bool (a₁ := _) ?_
     grind [w64, IsPrc, ParcelV.pl, AnswerV.zero, OpV.zero]
   ·replace hc13 := dF hc13
    refine Zj ?_; refine Za (l := [0, 1]) rfl ?_; refine Zav ?_; refine Zd ?_; refine Ze ?_; refine Zc ?_; refine Y_pk [80, 27, 6, 5, 4, 2, 1] ?_
    refine Zau rfl (fun hc22 => ?_) (fun hc22 => ?_)
    ·replace hc22 := dT hc22
     refine Zj ?_; refine Za (l := [0, 1, 2, 3, 4, 5, 6, 7, 8, 9]) rfl ?_
     iterate 2 refine Zf ?_
     refine Zag 83 rfl (fun hc23 => ?_) (fun hc23 => ?_)
     ·replace hc23 := dT hc23
      refine Zf ?_; refine Zl ?_; refine Zf ?_
      refine Zag 86 rfl (fun hc24 => ?_) (fun hc24 => ?_)
      ·replace hc24 := dT hc24
       refine Zb F.foff39_6 ?_; refine Zi F.lay37 ?_; refine X_fs rfl rfl F.ok47 rfl (CelIs_ok _ ⟨_, _, _, ⟨_, _, _⟩⟩ (by assumption)) rfl ?_
       rintro _ rfl
       refine Zl ?_; refine Zd ?_; refine Ze ?_; refine Zc ?_; refine Y_pk [2] ?_; refine Zak ?_; refine Zbj ?_; refine Zba ?_
       refine Zaj (.inr rfl) (.tmp rfl .nil) (fun w hw => ?_)
       refine ⟨_, rfl, (hw.c), ?_⟩
       clear hw
       refine congrArg Value.bool (a₁ := _) ?_
       grind [w64, IsPrc, ParcelV.pl, AnswerV.zero, OpV.zero]
      ·replace hc24 := dF hc24
       iterate 3 refine Zz ?_
       refine Zl ?_; refine Zd ?_; refine Ze ?_; refine Zc ?_; refine Y_pk [2] ?_; refine Zak ?_; refine Zbj ?_; refine Zba ?_
       refine Zaj (.inr rfl) (.tmp rfl .nil) (fun w hw => ?_)
       refine ⟨_, rfl, (hw.c), ?_⟩
       clear hw
       refine congrArg Value.bool (a₁ := _) ?_
       grind [w64, IsPrc, ParcelV.pl, AnswerV.zero, OpV.zero]
     ·replace hc23 := dF hc23
      refine Zz ?_; refine Zl ?_; refine Zf ?_
      iterate 3 refine Zz ?_
      refine Zl ?_; refine Zd ?_; refine Ze ?_; refine Zc ?_; refine Y_pk [2] ?_; refine Zak ?_; refine Zbj ?_; refine Zba ?_
      refine Zaj (.inr rfl) (.tmp rfl .nil) (fun w hw => ?_)
      refine ⟨_, rfl, (hw.c), ?_⟩
      clear hw
      refine congrArg Value.bool (a₁ := _) ?_
      grind [w64, IsPrc, ParcelV.pl, AnswerV.zero, OpV.zero]
    ·replace hc22 := dF hc22
     refine Zj ?_; refine Za (l := [0, 1]) rfl ?_; refine Zav ?_; refine Zd ?_; refine Ze ?_; refine Zc ?_; refine Y_pk [91, 6, 5, 4, 2, 1] ?_
     refine Zau rfl (fun hc25 => ?_) (fun hc25 => ?_)
     ·replace hc25 := dT hc25
      refine Zj ?_; refine Za (l := [0, 1, 2, 3, 4, 5, 6, 7, 8, 9, 10, 11, 12]) rfl ?_
      iterate 2 refine Zf ?_
      refine Zag 94 rfl (fun hc26 => ?_) (fun hc26 => ?_)
      ·replace hc26 := dT hc26
       refine Zf ?_; refine Zl ?_; refine Zf ?_
       refine Zag 97 rfl (fun hc27 => ?_) (fun hc27 => ?_)
       ·replace hc27 := dT hc27
        refine Zf ?_; refine Zl ?_; refine Zf ?_
        refine Zag 100 rfl (fun hc28 => ?_) (fun hc28 => ?_)
        ·replace hc28 := dT hc28
         refine Zb F.foff39_6 ?_; refine Zi F.lay37 ?_; refine X_fs rfl rfl F.ok45 rfl (pbare_ok _ ⟨_, _, _, ⟨_, _, _⟩⟩ (by assumption)) rfl ?_
         rintro _ rfl
         refine Zl ?_; refine Zd ?_; refine Ze ?_; refine Zc ?_; refine Y_pk [2] ?_; refine Zak ?_; refine Zbj ?_; refine Zba ?_
         refine Zaj (.inr rfl) (.tmp rfl .nil) (fun w hw => ?_)
         refine ⟨_, rfl, (hw.c), ?_⟩
         clear hw
         refine congrArg Value.bool (a₁ := _) ?_
         grind [w64, IsPrc, ParcelV.pl, AnswerV.zero, OpV.zero]
        ·replace hc28 := dF hc28
         iterate 3 refine Zz ?_
         refine Zl ?_; refine Zd ?_; refine Ze ?_; refine Zc ?_; refine Y_pk [2] ?_; refine Zak ?_; refine Zbj ?_; refine Zba ?_
         refine Zaj (.inr rfl) (.tmp rfl .nil) (fun w hw => ?_)
         refine ⟨_, rfl, (hw.c), ?_⟩
         clear hw
         refine congrArg Value.bool (a₁ := _) ?_
         grind [w64, IsPrc, ParcelV.pl, AnswerV.zero, OpV.zero]
       ·replace hc27 := dF hc27
        refine Zz ?_; refine Zl ?_; refine Zf ?_
        iterate 3 refine Zz ?_
        refine Zl ?_; refine Zd ?_; refine Ze ?_; refine Zc ?_; refine Y_pk [2] ?_; refine Zak ?_; refine Zbj ?_; refine Zba ?_
        refine Zaj (.inr rfl) (.tmp rfl .nil) (fun w hw => ?_)
        refine ⟨_, rfl, (hw.c), ?_⟩
        clear hw
        refine congrArg Value.bool (a₁ := _) ?_
        grind [w64, IsPrc, ParcelV.pl, AnswerV.zero, OpV.zero]
      ·replace hc26 := dF hc26
       refine Zz ?_; refine Zl ?_; refine Zf ?_; refine Zz ?_; refine Zl ?_; refine Zf ?_
       iterate 3 refine Zz ?_
       refine Zl ?_; refine Zd ?_; refine Ze ?_; refine Zc ?_; refine Y_pk [2] ?_; refine Zak ?_; refine Zbj ?_; refine Zba ?_
       refine Zaj (.inr rfl) (.tmp rfl .nil) (fun w hw => ?_)
       refine ⟨_, rfl, (hw.c), ?_⟩
       clear hw
       refine congrArg Value.bool (a₁ := _) ?_
       grind [w64, IsPrc, ParcelV.pl, AnswerV.zero, OpV.zero]
     ·replace hc25 := dF hc25
      refine Zax ?_; refine Zde ?_; refine Zc ?_; refine Y_pk [2] ?_; refine Zj ?_; refine Za (l := [0]) rfl ?_; refine Zd ?_; refine Ze ?_; refine Zc ?_; refine Zak ?_
      refine Zaj (.inr rfl) (.tmp rfl .nil) (fun w hw => ?_)
      refine ⟨_, rfl, (hw.c), ?_⟩
      clear hw
      refine congrArg Value.bool (a₁ := _) ?_
      grind [w64, IsPrc, ParcelV.pl, AnswerV.zero, OpV.zero]
theorem rpIs_ok (M : Mem) (p : ParcelV) (hp0 : ParcelV.ok M p) : Fs Tryz.prog 29 [p.enc] M (fun v => v = Value.bool (decide (IsPrc p.pl))) := by
  obtain ⟨Zbx, Zbm, Zbr, ⟨Zv, Zao, Zap, Zy, Zbc⟩, ⟨Zab, Zt, Zae, Zad⟩, Zbd, ⟨Zs, Zai, Zah, ⟨Zn, Zm, Zk⟩⟩⟩ := p
  have k_p_cell : CellV.ok M ⟨Zs, Zai, Zah, ⟨Zn, Zm, Zk⟩⟩ := hp0.h0
  have Zbu : SlK M MarkV.segs 6 ⟨Zn, Zm, Zk⟩ := hp0.h0.h0
  have s_p_cell_marks : SlM M Zn (Zk.map MarkV.segs) 6 := Zbu.h1
  have n_p_cell_marks : (Zk.map MarkV.segs).length = Zk.length := List.length_map ..
  have m_p_cell_marks : Zk.length ≤ 9223372036854775807 := Zbu.h2
  have c_p_cell_marks : Zk.length ≤ Zm := Zbu.h3
  refine Zci Tryz.func29 rfl Tryz.ntmps29 rfl ?_; intro H
  refine Zj ?_; refine Za (l := [0, 1]) rfl ?_
  refine Zcz ?_; intro b1
  refine Zd ?_; refine Ze ?_; refine Zc ?_; refine Y_pk [2, 1] ?_; refine Zj ?_; refine Za (l := [0, 1, 2, 3, 4]) rfl ?_; refine Zb F.foff39_2 ?_; refine Zi F.lay29 ?_; refine X_build0 rfl rfl F.zero29 F.arr29 rfl ?_
  refine Zfx (m := 20) rfl rfl rfl rfl rfl (by constructor) (by constructor) F.lay29 F.kinds29 rfl F.guard29 (Zga Zez) (Zga Zez) rfl rfl rfl ?_; intro c2 he3
  replace he3 : c2 = true ↔ Segs.cells _ = Segs.cells _ := he3
  obtain rfl := eqD he3 (Zfu (x := _) (y := _)); clear he3
  refine Zd ?_; refine Ze ?_; refine Zc ?_; refine Y_pk [3, 2, 1] ?_; refine Zj ?_; refine Za (l := [0, 1, 2, 3, 4]) rfl ?_; refine Zb F.foff39_3 ?_; refine Zi F.lay31 ?_; refine Zbv rfl rfl F.bld31 (.nil) rfl rfl ?_
  refine Zfx (m := 20) rfl rfl rfl rfl rfl (by constructor) (by constructor) F.lay31 F.kinds31 rfl F.guard31 (by exact FitOpV (⟨_, _, _, _, _⟩)) (by exact FitOpV (⟨_, _, _, _, _⟩)) rfl rfl rfl ?_; intro c4 he5
  replace he5 : c4 = true ↔ Segs.cells _ = Segs.cells _ := he5
  obtain rfl := eqD he5 (OpV.inj (x := ⟨_, _, _, _, _⟩) (y := ⟨_, _, _, _, _⟩)); clear he5
  refine Zd ?_; refine Ze ?_; refine Zc ?_; refine Y_pk [4, 3, 2, 1] ?_; refine Zj ?_; refine Za (l := [0, 1, 2, 3, 4]) rfl ?_; refine Zb F.foff39_4 ?_; refine Zi F.lay34 ?_; refine Zbv rfl rfl F.bld34 (.nil) rfl rfl ?_
  refine Zfx (m := 20) rfl rfl rfl rfl rfl (by constructor) (by constructor) F.lay34 F.kinds34 rfl F.guard34 (by exact FitAnswerV (⟨_, _, _, _⟩)) (by exact FitAnswerV (⟨_, _, _, _⟩)) rfl rfl rfl ?_; intro c6 he7
  replace he7 : c6 = true ↔ Segs.cells _ = Segs.cells _ := he7
  obtain rfl := eqD he7 (AnswerV.inj (x := ⟨_, _, _, _⟩) (y := ⟨_, _, _, _⟩)); clear he7
  refine Zd ?_; refine Ze ?_; refine Zc ?_; refine Y_pk [5, 4, 3, 2, 1] ?_
  iterate 2 refine Zj ?_
  refine Za (l := [0, 1]) rfl ?_; refine Zb F.foff39_0 ?_; refine Zi F.lay3 ?_; refine Ze ?_; refine Zc ?_; refine Y_pk [19, 5, 4, 3, 2, 1] ?_; refine Zbe ?_; refine Zj ?_; refine Za (l := [0, 1]) rfl ?_; refine Zav ?_; refine Zd ?_; refine Ze ?_; refine Zc ?_; refine Y_pk [20, 19, 5, 4, 3, 2, 1] ?_
  refine Zau rfl (fun hc8 => ?_) (fun hc8 => ?_)
  ·replace hc8 := dT hc8
   refine Zj ?_; refine Za (l := [0, 1, 2, 3, 4, 5, 6, 7, 8, 9, 10, 11, 12, 13, 14, 15, 16]) rfl ?_; refine Zb F.foff39_3 ?_; refine Zi F.lay31 ?_; refine X_fs rfl rfl F.ok66 rfl (rIsOp_ok _ ⟨_, _, _, _, _⟩) rfl ?_
   rintro _ rfl
   refine Zf ?_
   refine Zag 25 rfl (fun hc9 => ?_) (fun hc9 => ?_)
   ·replace hc9 := dT hc9
    refine Zf ?_; refine Zl ?_; refine Zf ?_
    refine Zag 28 rfl (fun hc10 => ?_) (fun hc10 => ?_)
    ·replace hc10 := dT hc10
     refine Zb F.foff39_5 ?_; refine Zi F.lay22 ?_; refine Zav ?_; refine Zl ?_; refine Zf ?_
     refine Zag 33 rfl (fun hc11 => ?_) (fun hc11 => ?_)
     ·replace hc11 := dT hc11
      refine Zb F.foff39_6 ?_; refine Zi F.lay37 ?_; refine X_fs rfl rfl F.ok67 rfl (rbare_ok _ ⟨_, _, _, ⟨_, _, _⟩⟩ (by assumption)) rfl ?_
      rintro _ rfl
      refine Zl ?_; refine Zd ?_; refine Ze ?_; refine Zc ?_; refine Y_pk [2] ?_; refine Zak ?_; refine Zbj ?_; refine Zba ?_
      refine Zaj (.inr rfl) (.tmp rfl .nil) (fun w hw => ?_)
      refine ⟨_, rfl, (hw.c), ?_⟩
      clear hw
      refine congrArg Value.bool (a₁ := _) ?_
      grind [w64, IsPrc, ParcelV.pl, AnswerV.zero, OpV.zero]
     ·replace hc11 := dF hc11
      iterate 3 refine Zz ?_
      refine Zl ?_; refine Zd ?_; refine Ze ?_; refine Zc ?_; refine Y_pk [2] ?_; refine Zak ?_; refine Zbj ?_; refine Zba ?_
      refine Zaj (.inr rfl) (.tmp rfl .nil) (fun w hw => ?_)
      refine ⟨_, rfl, (hw.c), ?_⟩
      clear hw
      refine congrArg Value.bool (a₁ := _) ?_
      grind [w64, IsPrc, ParcelV.pl, AnswerV.zero, OpV.zero]
    ·replace hc10 := dF hc10
     iterate 3 refine Zz ?_
     refine Zl ?_; refine Zf ?_
     iterate 3 refine Zz ?_
     refine Zl ?_; refine Zd ?_; refine Ze ?_; refine Zc ?_; refine Y_pk [2] ?_; refine Zak ?_; refine Zbj ?_; refine Zba ?_
     refine Zaj (.inr rfl) (.tmp rfl .nil) (fun w hw => ?_)
     refine ⟨_, rfl, (hw.c), ?_⟩
     clear hw
     refine congrArg Value.bool (a₁ := _) ?_
     grind [w64, IsPrc, ParcelV.pl, AnswerV.zero, OpV.zero]
   ·replace hc9 := dF hc9
    refine Zz ?_; refine Zl ?_; refine Zf ?_
    iterate 3 refine Zz ?_
    refine Zl ?_; refine Zf ?_
    iterate 3 refine Zz ?_
    refine Zl ?_; refine Zd ?_; refine Ze ?_; refine Zc ?_; refine Y_pk [2] ?_; refine Zak ?_; refine Zbj ?_; refine Zba ?_
    refine Zaj (.inr rfl) (.tmp rfl .nil) (fun w hw => ?_)
    refine ⟨_, rfl, (hw.c), ?_⟩
    clear hw
    refine congrArg Value.bool (a₁ := _) ?_
    grind [w64, IsPrc, ParcelV.pl, AnswerV.zero, OpV.zero]
  ·replace hc8 := dF hc8
   refine Zj ?_; refine Za (l := [0, 1]) rfl ?_; refine Zav ?_; refine Zd ?_; refine Ze ?_; refine Zc ?_; refine Y_pk [38, 19, 5, 4, 3, 2, 1] ?_
   refine Zau rfl (fun hc12 => ?_) (fun hc12 => ?_)
   ·replace hc12 := dT hc12
    refine Zj ?_; refine Za (l := [0, 1, 2, 3, 4, 5, 6, 7, 8, 9, 10]) rfl ?_; refine Zb F.foff39_3 ?_; refine Zi F.lay31 ?_; refine Zb F.foff39_3 ?_; refine Zb F.foff31_0 ?_; refine Zi F.lay3 ?_; refine Zb F.foff39_3 ?_; refine Zb F.foff31_1 ?_; refine Zi F.lay22 ?_; refine Zbv rfl rfl F.bld31 (.cons rfl (by constructor) (.cons rfl (by constructor) .nil)) rfl rfl ?_
    refine Zfx (m := 20) rfl rfl rfl rfl rfl (by constructor) (by constructor) F.lay31 F.kinds31 rfl F.guard31 (by exact FitOpV (⟨_, _, _, _, _⟩)) (by exact FitOpV (⟨_, _, _, _, _⟩)) rfl rfl rfl ?_; intro c13 he14
    replace he14 : c13 = true ↔ Segs.cells _ = Segs.cells _ := he14
    obtain rfl := eqD he14 (OpV.inj (x := ⟨_, _, _, _, _⟩) (y := ⟨_, _, _, _, _⟩)); clear he14
    refine Zd ?_; refine Ze ?_; refine Zc ?_; refine Y_pk [4, 3, 2, 1] ?_; refine Zj ?_; refine Za (l := [0, 1, 2, 3, 4, 5, 6, 7, 8, 9, 10, 11, 12, 13, 14, 15, 16, 17, 18, 19, 20, 21, 22, 23, 24, 25, 26, 27, 28, 29, 30, 31]) rfl ?_
    iterate 2 refine Zf ?_
    refine Zag 51 rfl (fun hc15 => ?_) (fun hc15 => ?_)
    ·replace hc15 := dT hc15
     refine Zf ?_; refine Zl ?_; refine Zf ?_
     refine Zag 54 rfl (fun hc16 => ?_) (fun hc16 => ?_)
     ·replace hc16 := dT hc16
      refine Zb F.foff39_3 ?_; refine Zb F.foff31_0 ?_; refine Zi F.lay3 ?_; refine Zav ?_; refine Zl ?_; refine Zf ?_
      refine Zag 60 rfl (fun hc17 => ?_) (fun hc17 => ?_)
      ·replace hc17 := dT hc17
       refine Zb F.foff39_3 ?_; refine Zb F.foff31_0 ?_; refine Zi F.lay3 ?_; refine Zav ?_; refine Zl ?_; refine Zf ?_
       refine Zag 66 rfl (fun hc18 => ?_) (fun hc18 => ?_)
       ·replace hc18 := dT hc18
        refine Zb F.foff39_4 ?_; refine Zi F.lay34 ?_; refine X_fs rfl rfl F.ok68 rfl (rA_ok _ ⟨_, _, _, _⟩) rfl ?_
        rintro _ rfl
        refine Zl ?_; refine Zf ?_
        refine Zag 71 rfl (fun hc19 => ?_) (fun hc19 => ?_)
        ·replace hc19 := dT hc19
         refine Zb F.foff39_5 ?_; refine Zi F.lay22 ?_; refine Zav ?_; refine Zl ?_; refine Zf ?_
         refine Zag 76 rfl (fun hc20 => ?_) (fun hc20 => ?_)
         ·replace hc20 := dT hc20
          refine Zb F.foff39_6 ?_; refine Zi F.lay37 ?_; refine X_fs rfl rfl F.ok67 rfl (rbare_ok _ ⟨_, _, _, ⟨_, _, _⟩⟩ (by assumption)) rfl ?_
          rintro _ rfl
          refine Zl ?_; refine Zd ?_; refine Ze ?_; refine Zc ?_; refine Y_pk [2] ?_; refine Zak ?_; refine Zbj ?_; refine Zba ?_
          refine Zaj (.inr rfl) (.tmp rfl .nil) (fun w hw => ?_)
          refine ⟨_, rfl, (hw.c), ?_⟩
          clear hw
          refine congrArg Value.bool (a₁ := _) ?_
          grind [w64, IsPrc, ParcelV.pl, AnswerV.zero, OpV.zero]
         ·replace hc20 := dF hc20
          iterate 3 refine Zz ?_
          refine Zl ?_; refine Zd ?_; refine Ze ?_; refine Zc ?_; refine Y_pk [2] ?_; refine Zak ?_; refine Zbj ?_; refine Zba ?_
          refine Zaj (.inr rfl) (.tmp rfl .nil) (fun w hw => ?_)
          refine ⟨_, rfl, (hw.c), ?_⟩
          clear hw
          refine congrArg Value.bool (a₁ := _) ?_
          grind [w64, IsPrc, ParcelV.pl, AnswerV.zero, OpV.zero]
        ·replace hc19 := dF hc19
         iterate 3 refine Zz ?_
         refine Zl ?_; refine Zf ?_
         iterate 3 refine Zz ?_
         refine Zl ?_; refine Zd ?_; refine Ze ?_; refine Zc ?_; refine Y_pk [2] ?_; refine Zak ?_; refine Zbj ?_; refine Zba ?_
         refine Zaj (.inr rfl) (.tmp rfl .nil) (fun w hw => ?_)
         refine ⟨_, rfl, (hw.c), ?_⟩
         clear hw
         refine congrArg Value.bool (a₁ := _) ?_
         grind [w64, IsPrc, ParcelV.pl, AnswerV.zero, OpV.zero]
       ·replace hc18 := dF hc18
        iterate 3 refine Zz ?_
        refine Zl ?_; refine Zf ?_
        iterate 3 refine Zz ?_
        refine Zl ?_; refine Zf ?_
        iterate 3 refine Zz ?_
        refine Zl ?_; refine Zd ?_; refine Ze ?_; refine Zc ?_; refine Y_pk [2] ?_; refine Zak ?_; refine Zbj ?_; refine Zba ?_
        refine Zaj (.inr rfl) (.tmp rfl .nil) (fun w hw => ?_)
        refine ⟨_, rfl, (hw.c), ?_⟩
        clear hw
        refine congrArg Value.bool (a₁ := _) ?_
        grind [w64, IsPrc, ParcelV.pl, AnswerV.zero, OpV.zero]
      ·replace hc17 := dF hc17
       iterate 4 refine Zz ?_
       refine Zl ?_; refine Zf ?_
       iterate 3 refine Zz ?_
       refine Zl ?_; refine Zf ?_
       iterate 3 refine Zz ?_
       refine Zl ?_; refine Zf ?_
       iterate 3 refine Zz ?_
       refine Zl ?_; refine Zd ?_; refine Ze ?_; refine Zc ?_; refine Y_pk [2] ?_; refine Zak ?_; refine Zbj ?_; refine Zba ?_
       refine Zaj (.inr rfl) (.tmp rfl .nil) (fun w hw => ?_)
       refine ⟨_, rfl, (hw.c), ?_⟩
       clear hw
       refine congrArg Value.bool (a₁ := _) ?_
       grind [w64, IsPrc, ParcelV.pl, AnswerV.zero, OpV.zero]
     ·replace hc16 := dF hc16
      iterate 4 refine Zz ?_
      refine Zl ?_; refine Zf ?_
      iterate 4 refine Zz ?_
      refine Zl ?_; refine Zf ?_
      iterate 3 refine Zz ?_
      refine Zl ?_; refine Zf ?_
      iterate 3 refine Zz ?_
      refine Zl ?_; refine Zf ?_
      iterate 3 refine Zz ?_
      refine Zl ?_; refine Zd ?_; refine Ze ?_; refine Zc ?_; refine Y_pk [2] ?_; refine Zak ?_; refine Zbj ?_; refine Zba ?_
      refine Zaj (.inr rfl) (.tmp rfl .nil) (fun w hw => ?_)
      refine ⟨_, rfl, (hw.c), ?_⟩
      clear hw
      refine congrArg Value.bool (a₁ := _) ?_
      grind [w64, IsPrc, ParcelV.pl, AnswerV.zero, OpV.zero]
    ·replace hc15 := dF hc15
     refine Zz ?_; refine Zl ?_; refine Zf ?_
     iterate 4 refine Zz ?_
     refine Zl ?_; refine Zf ?_
     iterate 4 refine Zz ?_
     refine Zl ?_; refine Zf ?_
     iterate 3 refine Zz ?_
     refine Zl ?_; refine Zf ?_
     iterate 3 refine Zz ?_
     refine Zl ?_; refine Zf ?_
     iterate 3 refine Zz ?_
     refine Zl ?_; refine Zd ?_; refine Ze ?_; refine Zc ?_; refine Y_pk [2] ?_; refine Zak ?_; refine Zbj ?_; refine Zba ?_
     refine Zaj (.inr rfl) (.tmp rfl .nil) (fun w hw => ?_)
     refine ⟨_, rfl, (hw.c), ?_⟩
     clear hw
     refine congrArg Value.bool (a₁ := _) ?_
     grind [w64, IsPrc, ParcelV.pl, AnswerV.zero, OpV.zero]
   ·replace hc12 := dF hc12
    refine Zj ?_; refine Za (l := [0, 1]) rfl ?_; refine Zav ?_; refine Zd ?_; refine Ze ?_; refine Zc ?_; refine Y_pk [81, 19, 5, 4, 3, 2, 1] ?_
    refine Zau rfl (fun hc21 => ?_) (fun hc21 => ?_)
    ·replace hc21 := dT hc21
     refine Zj ?_; refine Za (l := [0, 1, 2, 3, 4, 5, 6, 7, 8, 9]) rfl ?_
     iterate 2 refine Zf ?_
     refine Zag 84 rfl (fun hc22 => ?_) (fun hc22 => ?_)
     ·replace hc22 := dT hc22
      refine Zf ?_; refine Zl ?_; refine Zf ?_
      refine Zag 87 rfl (fun hc23 => ?_) (fun hc23 => ?_)
      ·replace hc23 := dT hc23
       refine Zb F.foff39_6 ?_; refine Zi F.lay37 ?_; refine X_fs rfl rfl F.ok50 rfl (rCelIs_ok _ ⟨_, _, _, ⟨_, _, _⟩⟩ (by assumption)) rfl ?_
       rintro _ rfl
       refine Zl ?_; refine Zd ?_; refine Ze ?_; refine Zc ?_; refine Y_pk [2] ?_; refine Zak ?_; refine Zbj ?_; refine Zba ?_
       refine Zaj (.inr rfl) (.tmp rfl .nil) (fun w hw => ?_)
       refine ⟨_, rfl, (hw.c), ?_⟩
       clear hw
       refine congrArg Value.bool (a₁ := _) ?_
       grind [w64, IsPrc, ParcelV.pl, AnswerV.zero, OpV.zero]
      ·replace hc23 := dF hc23
       iterate 3 refine Zz ?_
       refine Zl ?_; refine Zd ?_; refine Ze ?_; refine Zc ?_; refine Y_pk [2] ?_; refine Zak ?_; refine Zbj ?_; refine Zba ?_
       refine Zaj (.inr rfl) (.tmp rfl .nil) (fun w hw => ?_)
       refine ⟨_, rfl, (hw.c), ?_⟩
       clear hw
       refine congrArg Value.bool (a₁ := _) ?_
       grind [w64, IsPrc, ParcelV.pl, AnswerV.zero, OpV.zero]
     ·replace hc22 := dF hc22
      refine Zz ?_; refine Zl ?_; refine Zf ?_
      iterate 3 refine Zz ?_
      refine Zl ?_; refine Zd ?_; refine Ze ?_; refine Zc ?_; refine Y_pk [2] ?_; refine Zak ?_; refine Zbj ?_; refine Zba ?_
      refine Zaj (.inr rfl) (.tmp rfl .nil) (fun w hw => ?_)
      refine ⟨_, rfl, (hw.c), ?_⟩
      clear hw
      refine congrArg Value.bool (a₁ := _) ?_
      grind [w64, IsPrc, ParcelV.pl, AnswerV.zero, OpV.zero]
    ·replace hc21 := dF hc21
     refine Zj ?_; refine Za (l := [0, 1]) rfl ?_; refine Zav ?_; refine Zd ?_; refine Ze ?_; refine Zc ?_; refine Y_pk [92, 5, 4, 3, 2, 1] ?_
     refine Zau rfl (fun hc24 => ?_) (fun hc24 => ?_)
     ·replace hc24 := dT hc24
      refine Zj ?_; refine Za (l := [0, 1, 2, 3, 4, 5, 6, 7, 8, 9, 10, 11, 12]) rfl ?_
      iterate 2 refine Zf ?_
      refine Zag 95 rfl (fun hc25 => ?_) (fun hc25 => ?_)
      ·replace hc25 := dT hc25
       refine Zf ?_; refine Zl ?_; refine Zf ?_
       refine Zag 98 rfl (fun hc26 => ?_) (fun hc26 => ?_)
       ·replace hc26 := dT hc26
        refine Zf ?_; refine Zl ?_; refine Zf ?_
        refine Zag 101 rfl (fun hc27 => ?_) (fun hc27 => ?_)
        ·replace hc27 := dT hc27
         refine Zb F.foff39_6 ?_; refine Zi F.lay37 ?_; refine X_fs rfl rfl F.ok67 rfl (rbare_ok _ ⟨_, _, _, ⟨_, _, _⟩⟩ (by assumption)) rfl ?_
         rintro _ rfl
         refine Zl ?_; refine Zd ?_; refine Ze ?_; refine Zc ?_; refine Y_pk [2] ?_; refine Zak ?_; refine Zbj ?_; refine Zba ?_
         refine Zaj (.inr rfl) (.tmp rfl .nil) (fun w hw => ?_)
         refine ⟨_, rfl, (hw.c), ?_⟩
         clear hw
         refine congrArg Value.bool (a₁ := _) ?_
         grind [w64, IsPrc, ParcelV.pl, AnswerV.zero, OpV.zero]
        ·replace hc27 := dF hc27
         iterate 3 refine Zz ?_
         refine Zl ?_; refine Zd ?_; refine Ze ?_; refine Zc ?_; refine Y_pk [2] ?_; refine Zak ?_; refine Zbj ?_; refine Zba ?_
         refine Zaj (.inr rfl) (.tmp rfl .nil) (fun w hw => ?_)
         refine ⟨_, rfl, (hw.c), ?_⟩
         clear hw
         refine congrArg Value.bool (a₁ := _) ?_
         grind [w64, IsPrc, ParcelV.pl, AnswerV.zero, OpV.zero]
       ·replace hc26 := dF hc26
        refine Zz ?_; refine Zl ?_; refine Zf ?_
        iterate 3 refine Zz ?_
        refine Zl ?_; refine Zd ?_; refine Ze ?_; refine Zc ?_; refine Y_pk [2] ?_; refine Zak ?_; refine Zbj ?_; refine Zba ?_
        refine Zaj (.inr rfl) (.tmp rfl .nil) (fun w hw => ?_)
        refine ⟨_, rfl, (hw.c), ?_⟩
        clear hw
        refine congrArg Value.bool (a₁ := _) ?_
        grind [w64, IsPrc, ParcelV.pl, AnswerV.zero, OpV.zero]
      ·replace hc25 := dF hc25
       refine Zz ?_; refine Zl ?_; refine Zf ?_; refine Zz ?_; refine Zl ?_; refine Zf ?_
       iterate 3 refine Zz ?_
       refine Zl ?_; refine Zd ?_; refine Ze ?_; refine Zc ?_; refine Y_pk [2] ?_; refine Zak ?_; refine Zbj ?_; refine Zba ?_
       refine Zaj (.inr rfl) (.tmp rfl .nil) (fun w hw => ?_)
       refine ⟨_, rfl, (hw.c), ?_⟩
       clear hw
       refine congrArg Value.bool (a₁ := _) ?_
       grind [w64, IsPrc, ParcelV.pl, AnswerV.zero, OpV.zero]
     ·replace hc24 := dF hc24
      refine Zax ?_; refine Zde ?_; refine Zc ?_; refine Y_pk [2] ?_; refine Zj ?_; refine Za (l := [0]) rfl ?_; refine Zd ?_; refine Ze ?_; refine Zc ?_; refine Zak ?_
      refine Zaj (.inr rfl) (.tmp rfl .nil) (fun w hw => ?_)
      refine ⟨_, rfl, (hw.c), ?_⟩
      clear hw
      refine congrArg Value.bool (a₁ := _) ?_
      grind [w64, IsPrc, ParcelV.pl, AnswerV.zero, OpV.zero]
theorem rpSame_ok (M : Mem) (p : ParcelV) (q : ParcelV) (hp0 : ParcelV.ok M p) (hq1 : ParcelV.ok M q) : Fs Tryz.prog 43 [p.enc, q.enc] M (fun v => v = Value.bool (decide (p.pl = q.pl))) := by
  obtain ⟨Zbx, Zbm, Zbr, ⟨Zv, Zao, Zap, Zy, Zbc⟩, ⟨Zab, Zt, Zae, Zad⟩, Zbd, ⟨Zs, Zai, Zah, ⟨Zn, Zm, Zk⟩⟩⟩ := p
  obtain ⟨q_kind, q_epoch, q_key, ⟨q_op_client, q_op_req, q_op_kind, q_op_version, q_op_val⟩, ⟨q_answer_code, q_answer_version, q_answer_has, q_answer_val⟩, q_serial, ⟨q_cell_version, q_cell_has, q_cell_val, ⟨q_cell_marks_a, q_cell_marks_c, q_cell_marks_l⟩⟩⟩ := q
  have k_p_cell : CellV.ok M ⟨Zs, Zai, Zah, ⟨Zn, Zm, Zk⟩⟩ := hp0.h0
  have Zbu : SlK M MarkV.segs 6 ⟨Zn, Zm, Zk⟩ := hp0.h0.h0
  have s_p_cell_marks : SlM M Zn (Zk.map MarkV.segs) 6 := Zbu.h1
  have n_p_cell_marks : (Zk.map MarkV.segs).length = Zk.length := List.length_map ..
  have m_p_cell_marks : Zk.length ≤ 9223372036854775807 := Zbu.h2
  have c_p_cell_marks : Zk.length ≤ Zm := Zbu.h3
  have k_q_cell : CellV.ok M ⟨q_cell_version, q_cell_has, q_cell_val, ⟨q_cell_marks_a, q_cell_marks_c, q_cell_marks_l⟩⟩ := hq1.h0
  have k_q_cell_marks : SlK M MarkV.segs 6 ⟨q_cell_marks_a, q_cell_marks_c, q_cell_marks_l⟩ := hq1.h0.h0
  have s_q_cell_marks : SlM M q_cell_marks_a (q_cell_marks_l.map MarkV.segs) 6 := k_q_cell_marks.h1
  have n_q_cell_marks : (q_cell_marks_l.map MarkV.segs).length = q_cell_marks_l.length := List.length_map ..
  have m_q_cell_marks : q_cell_marks_l.length ≤ 9223372036854775807 := k_q_cell_marks.h2
  have c_q_cell_marks : q_cell_marks_l.length ≤ q_cell_marks_c := k_q_cell_marks.h3
  refine Zci Tryz.func43 rfl Tryz.ntmps43 rfl ?_; intro H
  refine Zj ?_; refine Za (l := [0, 1, 2]) rfl ?_
  refine Zcz ?_; intro b1
  refine Zcz ?_; intro b2
  refine Zd ?_; refine Ze ?_; refine Zc ?_; refine Y_pk [4, 3, 2] ?_; refine Zj ?_; refine Za (l := [0, 1, 2, 3, 4, 5, 6, 7, 8, 9, 10, 11, 12, 13, 14, 15, 16, 17, 18, 19, 20, 21, 22, 23, 24, 25, 26, 27, 28, 29, 30, 31, 32, 33, 34, 35, 36, 37, 38, 39, 40, 41, 42, 43, 44, 45, 46, 47]) rfl ?_; refine Zb F.foff39_0 ?_; refine Zi F.lay3 ?_; refine Zb F.foff39_0 ?_; refine Zi F.lay3 ?_; refine Zav ?_; refine Zf ?_
  refine Zag 10 rfl (fun hc3 => ?_) (fun hc3 => ?_)
  ·replace hc3 := dT hc3
   refine Zb F.foff39_1 ?_; refine Zi F.lay22 ?_; refine Zb F.foff39_1 ?_; refine Zi F.lay22 ?_; refine Zav ?_; refine Zl ?_; refine Zf ?_
   refine Zag 17 rfl (fun hc4 => ?_) (fun hc4 => ?_)
   ·replace hc4 := dT hc4
    refine Zb F.foff39_2 ?_; refine Zi F.lay29 ?_; refine Zb F.foff39_2 ?_; refine Zi F.lay29 ?_
    refine Zfx (m := 20) rfl rfl rfl rfl rfl (by constructor) (by constructor) F.lay29 F.kinds29 rfl F.guard29 (Zga Zez) (Zga Zez) rfl rfl rfl ?_; intro c5 he6
    replace he6 : c5 = true ↔ Segs.cells _ = Segs.cells _ := he6
    obtain rfl := eqD he6 (Zfu (x := _) (y := _)); clear he6
    refine Zl ?_; refine Zf ?_
    refine Zag 24 rfl (fun hc7 => ?_) (fun hc7 => ?_)
    ·replace hc7 := dT hc7
     refine Zb F.foff39_3 ?_; refine Zi F.lay31 ?_; refine Zb F.foff39_3 ?_; refine Zi F.lay31 ?_
     refine Zfx (m := 20) rfl rfl rfl rfl rfl (by constructor) (by constructor) F.lay31 F.kinds31 rfl F.guard31 (by exact FitOpV (⟨_, _, _, _, _⟩)) (by exact FitOpV (⟨_, _, _, _, _⟩)) rfl rfl rfl ?_; intro c8 he9
     replace he9 : c8 = true ↔ Segs.cells _ = Segs.cells _ := he9
     obtain rfl := eqD he9 (OpV.inj (x := ⟨_, _, _, _, _⟩) (y := ⟨_, _, _, _, _⟩)); clear he9
     refine Zl ?_; refine Zf ?_
     refine Zag 31 rfl (fun hc10 => ?_) (fun hc10 => ?_)
     ·replace hc10 := dT hc10
      refine Zb F.foff39_4 ?_; refine Zi F.lay34 ?_; refine Zb F.foff39_4 ?_; refine Zi F.lay34 ?_
      refine Zfx (m := 20) rfl rfl rfl rfl rfl (by constructor) (by constructor) F.lay34 F.kinds34 rfl F.guard34 (by exact FitAnswerV (⟨_, _, _, _⟩)) (by exact FitAnswerV (⟨_, _, _, _⟩)) rfl rfl rfl ?_; intro c11 he12
      replace he12 : c11 = true ↔ Segs.cells _ = Segs.cells _ := he12
      obtain rfl := eqD he12 (AnswerV.inj (x := ⟨_, _, _, _⟩) (y := ⟨_, _, _, _⟩)); clear he12
      refine Zl ?_; refine Zf ?_
      refine Zag 38 rfl (fun hc13 => ?_) (fun hc13 => ?_)
      ·replace hc13 := dT hc13
       refine Zb F.foff39_5 ?_; refine Zi F.lay22 ?_; refine Zb F.foff39_5 ?_; refine Zi F.lay22 ?_; refine Zav ?_; refine Zl ?_; refine Zf ?_
       refine Zag 45 rfl (fun hc14 => ?_) (fun hc14 => ?_)
       ·replace hc14 := dT hc14
        refine Zb F.foff39_6 ?_; refine Zi F.lay37 ?_; refine Zb F.foff39_6 ?_; refine Zi F.lay37 ?_; refine X_fs rfl rfl F.ok79 rfl (SameC_ok _ ⟨_, _, _, ⟨_, _, _⟩⟩ ⟨_, _, _, ⟨_, _, _⟩⟩ (by assumption) (by assumption)) rfl ?_
        rintro _ rfl
        refine Zl ?_; refine Zd ?_; refine Ze ?_; refine Zc ?_; refine Y_pk [4] ?_; refine Zak ?_
        refine Zaj (.inr rfl) (.tmp rfl .nil) (fun w hw => ?_)
        refine ⟨_, rfl, (hw.c), ?_⟩
        clear hw
        refine congrArg Value.bool ?_
        exact decide_eq_decide.2 ⟨fun h9 => by simp_all [ParcelV.pl], fun h9 => by simp only [ParcelV.pl, Prc.mk.injEq] at h9; simp_all⟩
       ·replace hc14 := dF hc14
        iterate 5 refine Zz ?_
        refine Zl ?_; refine Zd ?_; refine Ze ?_; refine Zc ?_; refine Y_pk [4] ?_; refine Zak ?_
        refine Zaj (.inr rfl) (.tmp rfl .nil) (fun w hw => ?_)
        refine ⟨_, rfl, (hw.c), ?_⟩
        clear hw
        refine congrArg Value.bool ?_
        exact (decide_eq_false (fun h9 => by simp only [ParcelV.pl, Prc.mk.injEq] at h9; simp_all)).symm
      ·replace hc13 := dF hc13
       iterate 5 refine Zz ?_
       refine Zl ?_; refine Zf ?_
       iterate 5 refine Zz ?_
       refine Zl ?_; refine Zd ?_; refine Ze ?_; refine Zc ?_; refine Y_pk [4] ?_; refine Zak ?_
       refine Zaj (.inr rfl) (.tmp rfl .nil) (fun w hw => ?_)
       refine ⟨_, rfl, (hw.c), ?_⟩
       clear hw
       refine congrArg Value.bool ?_
       exact (decide_eq_false (fun h9 => by simp only [ParcelV.pl, Prc.mk.injEq] at h9; simp_all)).symm
     ·replace hc10 := dF hc10
      iterate 5 refine Zz ?_
      refine Zl ?_; refine Zf ?_
      iterate 5 refine Zz ?_
      refine Zl ?_; refine Zf ?_
      iterate 5 refine Zz ?_
      refine Zl ?_; refine Zd ?_; refine Ze ?_; refine Zc ?_; refine Y_pk [4] ?_; refine Zak ?_
      refine Zaj (.inr rfl) (.tmp rfl .nil) (fun w hw => ?_)
      refine ⟨_, rfl, (hw.c), ?_⟩
      clear hw
      refine congrArg Value.bool ?_
      exact (decide_eq_false (fun h9 => by simp only [ParcelV.pl, Prc.mk.injEq] at h9; simp_all)).symm
    ·replace hc7 := dF hc7
     iterate 5 refine Zz ?_
     refine Zl ?_; refine Zf ?_
     iterate 5 refine Zz ?_
     refine Zl ?_; refine Zf ?_
     iterate 5 refine Zz ?_
     refine Zl ?_; refine Zf ?_
     iterate 5 refine Zz ?_
     refine Zl ?_; refine Zd ?_; refine Ze ?_; refine Zc ?_; refine Y_pk [4] ?_; refine Zak ?_
     refine Zaj (.inr rfl) (.tmp rfl .nil) (fun w hw => ?_)
     refine ⟨_, rfl, (hw.c), ?_⟩
     clear hw
     refine congrArg Value.bool ?_
     exact (decide_eq_false (fun h9 => by simp only [ParcelV.pl, Prc.mk.injEq] at h9; simp_all)).symm
   ·replace hc4 := dF hc4
    iterate 5 refine Zz ?_
    refine Zl ?_; refine Zf ?_
    iterate 5 refine Zz ?_
    refine Zl ?_; refine Zf ?_
    iterate 5 refine Zz ?_
    refine Zl ?_; refine Zf ?_
    iterate 5 refine Zz ?_
    refine Zl ?_; refine Zf ?_
    iterate 5 refine Zz ?_
    refine Zl ?_; refine Zd ?_; refine Ze ?_; refine Zc ?_; refine Y_pk [4] ?_; refine Zak ?_
    refine Zaj (.inr rfl) (.tmp rfl .nil) (fun w hw => ?_)
    refine ⟨_, rfl, (hw.c), ?_⟩
    clear hw
    refine congrArg Value.bool ?_
    exact (decide_eq_false (fun h9 => by simp only [ParcelV.pl, Prc.mk.injEq] at h9; simp_all)).symm
  ·replace hc3 := dF hc3
   iterate 5 refine Zz ?_
   refine Zl ?_; refine Zf ?_
   iterate 5 refine Zz ?_
   refine Zl ?_; refine Zf ?_
   iterate 5 refine Zz ?_
   refine Zl ?_; refine Zf ?_
   iterate 5 refine Zz ?_
   refine Zl ?_; refine Zf ?_
   iterate 5 refine Zz ?_
   refine Zl ?_; refine Zf ?_
   iterate 5 refine Zz ?_
   refine Zl ?_; refine Zd ?_; refine Ze ?_; refine Zc ?_; refine Y_pk [4] ?_; refine Zak ?_
   refine Zaj (.inr rfl) (.tmp rfl .nil) (fun w hw => ?_)
   refine ⟨_, rfl, (hw.c), ?_⟩
   clear hw
   refine congrArg Value.bool ?_
   exact (decide_eq_false (fun h9 => by simp only [ParcelV.pl, Prc.mk.injEq] at h9; simp_all)).symm
end Go.Proofs.YtpkeilhilpogiaaGreat
namespace Go.Proofs.YtpkeilhilpogiaaGreat
open Go.Esp
theorem F.ok91 : okFn Tryz.prog 91 = true := by kernel_rfl
theorem now_ok (M : Mem) (c : CellV) (code : Int) (hc0 : CellV.ok M c) : Fs Tryz.prog 91 [c.enc, .int .i64 code] M (fun v => v = AnswerV.enc ((⟨code, c.version, c.has, ⟨#[]⟩⟩ : AnswerV))) := by
  obtain ⟨Zbg, Zdv, Zdx, ⟨Zbi, Zbh, Zu⟩⟩ := c
  have Zbs : SlK M MarkV.segs 6 ⟨Zbi, Zbh, Zu⟩ := hc0.h0
  have s_c_marks : SlM M Zbi (Zu.map MarkV.segs) 6 := Zbs.h1
  have n_c_marks : (Zu.map MarkV.segs).length = Zu.length := List.length_map ..
  have m_c_marks : Zu.length ≤ 9223372036854775807 := Zbs.h2
  have c_c_marks : Zu.length ≤ Zbh := Zbs.h3
  refine Zci Tryz.func91 rfl Tryz.ntmps91 rfl ?_; intro H
  refine Zj ?_; refine Za (l := [0, 1]) rfl ?_
  refine Zcz ?_; intro b1
  refine Zby F.zero34 ?_; intro b2
  refine Ze ?_; refine Zc ?_; refine Y_pk [4, 2, 1] ?_; refine Zj ?_; refine Za (l := [0, 1, 2, 3, 4, 5, 6]) rfl ?_; refine Zf ?_; refine Zb F.foff37_0 ?_; refine Zi F.lay22 ?_; refine Zb F.foff37_1 ?_; refine Zi F.lay4 ?_; refine Zbv rfl rfl F.bld34 (.cons rfl (by constructor) (.cons rfl (by constructor) (.cons rfl (by constructor) .nil))) rfl rfl ?_; refine Zas F.lay34 ?_; refine Ze ?_; refine Zc ?_; refine Y_pk [4] ?_; refine Zak ?_
  refine Zaj (.inr rfl) (.cell rfl (by repeat first | exact List.Mem.head _ | refine List.Mem.tail _ ?_ | refine List.mem_append_right _ ?_) F.lay34 rfl rfl .nil) (fun w hw => ?_)
  refine ⟨_, rfl, (hw.c), ?_⟩
  clear hw
  rfl
theorem Do_ok (M : Mem) (c : CellV) (o : OpV) (hc0 : CellV.ok M c) : Esp.Fn Tryz.prog 56 [c.enc, o.enc] M (fun M' v => DoE M' v (doC c.pl o)) := by
  obtain ⟨Zbg, Zdv, Zdx, ⟨Zbi, Zbh, Zu⟩⟩ := c
  obtain ⟨Zcj, Zfl, Zee, Zdz, Zgj⟩ := o
  have Zbs : SlK M MarkV.segs 6 ⟨Zbi, Zbh, Zu⟩ := hc0.h0
  have s_c_marks : SlM M Zbi (Zu.map MarkV.segs) 6 := Zbs.h1
  have n_c_marks : (Zu.map MarkV.segs).length = Zu.length := List.length_map ..
  have m_c_marks : Zu.length ≤ 9223372036854775807 := Zbs.h2
  have c_c_marks : Zu.length ≤ Zbh := Zbs.h3
  show Esp.Fn _ _ _ _ (fun M' v => DoE M' v (doC (CellV.pl ⟨Zbg, Zdv, Zdx, ⟨Zbi, Zbh, Zu⟩⟩) ⟨Zcj, Zfl, Zee, Zdz, Zgj⟩))
  refine Zek Tryz.func56 rfl Tryz.ntmps56 rfl ?_; intro H
  refine Zj ?_; refine Za (l := [0, 1, 2, 3, 4, 5]) rfl ?_
  refine Zcz ?_; intro b1
  refine Zcz ?_; intro b2
  refine Zby F.zero37 ?_; intro b3
  refine Zby F.zero34 ?_; intro b4
  iterate 2 refine Zd ?_
  refine Ze ?_; refine Zc ?_; refine Y_pk [7, 6, 5, 4, 3, 2] ?_
  iterate 2 refine Zj ?_
  refine Za (l := [0, 1, 2, 3, 4, 5, 6, 7]) rfl ?_; refine Zi F.lay37 ?_; refine X_fs rfl rfl F.ok47 rfl (CelIs_ok _ ⟨Zbg, Zdv, Zdx, ⟨Zbi, Zbh, Zu⟩⟩ hc0) rfl ?_
  rintro _ rfl
  refine Zel ?_; refine Zf ?_
  refine Zag 17 rfl (fun hc5 => ?_) (fun hc5 => ?_)
  ·replace hc5 := nT hc5
   iterate 3 refine Zz ?_
   refine Zl ?_; refine Ze ?_; refine Zc ?_; refine Y_pk [21, 7, 6, 5, 4, 3, 2] ?_; refine Zcy rfl ?_; refine Zj ?_; refine Za (l := [0, 1, 2, 3, 4, 5]) rfl ?_; refine Zbv rfl rfl F.bld37 (.nil) rfl rfl ?_; refine Zbv rfl rfl F.bld34 (.nil) rfl rfl ?_; refine Zas F.lay37 ?_; refine Zas F.lay34 ?_
   iterate 2 refine Zd ?_
   refine Ze ?_; refine Zc ?_; refine Y_pk [7, 6, 5, 4, 3, 2] ?_; refine Zak ?_; refine Zba ?_
   refine Zaj (.inr rfl) (.cell rfl (by repeat first | exact List.Mem.head _ | refine List.Mem.tail _ ?_ | refine List.mem_append_right _ ?_) F.lay37 rfl rfl (.cell rfl (by repeat first | exact List.Mem.head _ | refine List.Mem.tail _ ?_ | refine List.mem_append_right _ ?_) F.lay34 rfl rfl (.tmp rfl (.tmp rfl .nil)))) (fun w hw => ?_)
   refine ⟨_, M, rfl, Mem.le.refl M, hw.c, ?_⟩
   rw [show doC (CellV.pl ⟨Zbg, Zdv, Zdx, ⟨Zbi, Zbh, Zu⟩⟩) ⟨Zcj, Zfl, Zee, Zdz, Zgj⟩ = (Cel.zero, AnswerV.zero, false, 1) from doC_no (by rintro ⟨g1, g2⟩; contradiction)]
   exact ⟨CellV.zero, rfl, rfl, CellV.zero_ok M⟩
  ·replace hc5 := nF hc5
   refine Zi F.lay31 ?_; refine X_fs rfl rfl F.ok44 rfl (IsOp_ok _ ⟨Zcj, Zfl, Zee, Zdz, Zgj⟩) rfl ?_
   rintro _ rfl
   refine Zel ?_; refine Zl ?_; refine Ze ?_; refine Zc ?_; refine Y_pk [21, 7, 6, 5, 4, 3, 2] ?_
   refine Zau rfl (fun hc6 => ?_) (fun hc6 => ?_)
   ·replace hc6 := nT hc6
    refine Zj ?_; refine Za (l := [0, 1, 2, 3, 4, 5]) rfl ?_; refine Zbv rfl rfl F.bld37 (.nil) rfl rfl ?_; refine Zbv rfl rfl F.bld34 (.nil) rfl rfl ?_; refine Zas F.lay37 ?_; refine Zas F.lay34 ?_
    iterate 2 refine Zd ?_
    refine Ze ?_; refine Zc ?_; refine Y_pk [7, 6, 5, 4, 3, 2] ?_; refine Zak ?_; refine Zba ?_
    refine Zaj (.inr rfl) (.cell rfl (by repeat first | exact List.Mem.head _ | refine List.Mem.tail _ ?_ | refine List.mem_append_right _ ?_) F.lay37 rfl rfl (.cell rfl (by repeat first | exact List.Mem.head _ | refine List.Mem.tail _ ?_ | refine List.mem_append_right _ ?_) F.lay34 rfl rfl (.tmp rfl (.tmp rfl .nil)))) (fun w hw => ?_)
    refine ⟨_, M, rfl, Mem.le.refl M, hw.c, ?_⟩
    rw [show doC (CellV.pl ⟨Zbg, Zdv, Zdx, ⟨Zbi, Zbh, Zu⟩⟩) ⟨Zcj, Zfl, Zee, Zdz, Zgj⟩ = (Cel.zero, AnswerV.zero, false, 1) from doC_no (by rintro ⟨g1, g2⟩; contradiction)]
    exact ⟨CellV.zero, rfl, rfl, CellV.zero_ok M⟩
   ·replace hc6 := nF hc6
    refine Zax ?_; refine Zc ?_; refine Y_pk [7, 6, 5, 4, 3, 2] ?_
    iterate 2 refine Zj ?_
    have hcc : IsCel (CellV.pl ⟨Zbg, Zdv, Zdx, ⟨Zbi, Zbh, Zu⟩⟩) := by assumption
    have hoo : IsOp ⟨Zcj, Zfl, Zee, Zdz, Zgj⟩ := by assumption
    have hcm : MarksOk Zu := hcc.2
    have hcl := marks_len hcm
    have hoc : 0 ≤ Zcj ∧ Zcj ≤ 63 := hoo.1
    refine Za (l := [0, 1, 2]) rfl ?_; refine Zb F.foff31_2 ?_; refine Zi F.lay3 ?_; refine Zav ?_; refine Ze ?_; refine Zc ?_; refine Y_pk [26, 7, 6, 5, 4, 3, 2] ?_
    refine Zau rfl (fun hc7 => ?_) (fun hc7 => ?_)
    ·replace hc7 := dT hc7
     refine Zj ?_; refine Za (l := [0, 1, 2, 3]) rfl ?_; refine Zi F.lay37 ?_; refine X_fs rfl rfl F.ok91 rfl (now_ok _ ⟨_, _, _, ⟨_, _, _⟩⟩ _ ⟨Zbs⟩) rfl ?_
     rintro _ rfl
     refine Zby F.zero34 ?_; intro b8
     refine Zas F.lay34 ?_; refine Ze ?_; refine Zc ?_; refine Y_pk [8, 7, 6, 5, 4, 3, 2] ?_; refine Zj ?_; refine Za (l := [0, 1, 2, 3]) rfl ?_; refine Zb F.foff37_2 ?_; refine Zi F.lay9 ?_; refine Zb F.foff34_3 ?_; refine Zas F.lay9 ?_; refine Ze ?_; refine Zc ?_; refine Y_pk [8, 7, 6, 5, 4, 3, 2] ?_; refine Zj ?_; refine Zdt (l := [0, 1, 2, 3, 4, 5]) (Hin := [(b3, _)]) (Hin2 := [(b4, _)]) [2, 3] #[0, 0, 1, 7, 15, 31] (by repeat first | exact Rem.here _ | exact Rem.two | apply Rem.skip | apply Rem.over) (by repeat first | exact Rem.here _ | exact Rem.two | apply Rem.skip | apply Rem.over) rfl (by kernel_rfl) (by kernel_rfl) ?_; refine Zi F.lay37 ?_; refine Zi F.lay34 ?_; refine Zdd rfl rfl rfl rfl rfl (by constructor) (by ((try simp only [cat, List.cons_append, List.nil_append, List.append_nil]); (repeat (first | exact Zbp | refine Zcb ?_ | (refine Zam ?_ ?_; rfl))); done)) (by repeat first | exact Upd.head | apply Upd.tail | apply Upd.over) F.lay37 rfl rfl (fun _ h => h.c) ?_
     refine Zdd rfl rfl rfl rfl rfl (by constructor) (by ((try simp only [cat, List.cons_append, List.nil_append, List.append_nil]); (repeat (first | exact Zbp | refine Zcb ?_ | (refine Zam ?_ ?_; rfl))); done)) (by repeat first | exact Upd.head | apply Upd.tail | apply Upd.over) F.lay34 rfl rfl (fun _ h => h.c) ?_
     iterate 2 refine Zd ?_
     refine Ze ?_; refine Zen ?_; refine Zc ?_; refine Y_pk [7, 6, 5, 4, 3, 2] ?_; refine Zak ?_; refine Zba ?_
     refine Zaj (.inr rfl) (.cell rfl (by repeat first | exact List.Mem.head _ | refine List.Mem.tail _ ?_ | refine List.mem_append_right _ ?_) F.lay37 rfl rfl (.cell rfl (by repeat first | exact List.Mem.head _ | refine List.Mem.tail _ ?_ | refine List.mem_append_right _ ?_) F.lay34 rfl rfl (.tmp rfl (.tmp rfl .nil)))) (fun w hw => ?_)
     refine ⟨_, M, rfl, Mem.le.refl M, hw.c, ?_⟩
     rw [doC_get hcc hoo (by assumption)]
     exact ⟨⟨Zbg, Zdv, Zdx, ⟨Zbi, Zbh, Zu⟩⟩, rfl, rfl, hc0⟩
    ·replace hc7 := dF hc7
     refine Zax ?_; refine Zc ?_; refine Y_pk [7, 6, 5, 4, 3, 2] ?_
     iterate 2 refine Zj ?_
     refine Za (l := [0, 1, 2, 3, 4, 5, 6, 7, 8, 9]) rfl ?_; refine Zb F.foff37_3 ?_; refine Zi F.lay35 ?_; refine Zb F.foff31_0 ?_; refine Zi F.lay3 ?_; refine X_fs rfl rfl F.ok92 rfl (find_ok _ ⟨Zbi, Zbh, Zu⟩ Zcj Zbs hcm hoc) rfl ?_
     rintro _ rfl
     refine Zf ?_
     iterate 2 refine Zcf ?_
     iterate 2 refine Zd ?_
     refine Ze ?_; refine Zc ?_; refine Y_pk [10, 9, 7, 6, 5, 4, 3, 2] ?_; refine Zj ?_; refine C_cutX (α := Bool) (fun b : Bool => [(53, .bool b)]) (fun b : Bool => (b = true → ∃ hi : isM Zu Zcj = true, Zfl ≤ (Zu[atM Zu Zcj]'(Zgt hi)).req) ∧ (b = false → doC (CellV.pl ⟨Zbg, Zdv, Zdx, ⟨Zbi, Zbh, Zu⟩⟩) ⟨Zcj, Zfl, Zee, Zdz, Zgj⟩ = goesC (CellV.pl ⟨Zbg, Zdv, Zdx, ⟨Zbi, Zbh, Zu⟩⟩) ⟨Zcj, Zfl, Zee, Zdz, Zgj⟩)) (.cons (k := 9) rfl (.cons (k := 7) rfl (.cons (k := 6) rfl (.cons (k := 5) rfl (.cons (k := 4) rfl (.cons (k := 3) rfl (.cons (k := 2) rfl .nil))))))) ?_ ?_
     ·skip
      refine Zar (l := [0, 1, 2, 3, 4, 5, 6, 7, 8, 9, 10, 11]) #[0, 1, 3, 7, 3, 31, 63, 127, 3, 259, 1023, 2047] _ rfl (by kernel_rfl) (by kernel_rfl) St.drawn (fun _ h => h) ?_
      iterate 2 refine Zf ?_
      refine Zag 43 rfl (fun hc9 => ?_) (fun hc9 => ?_)
      ·skip
       simp only [AnswerV.eta, MarkV.eta, CellV.eta, HeldV.eta, WaitV.eta, ServerV.eta, PeerV.eta, OpV.eta, ParcelV.eta, PostV.eta, WorkerV.eta] at hc9
       have hlt9 := Zgt (l := Zu) (c := Zcj) (by assumption)
       refine Zb F.foff37_3 ?_; refine Zi F.lay35 ?_; refine Zf ?_; refine Zaa rfl rfl rfl rfl F.elem35 (by rfl) (by omega) (by exact SlM.plain (by assumption) (by (simp; omega))) rfl ?_; refine Zaq rfl rfl rfl (by exact SlM.plain (by assumption) (by (simp; omega))) F.foff92_1 rfl ?_; refine Zay rfl rfl rfl (by assumption) (by exact Zbl (by omega)) F.lay22 rfl rfl rfl ?_; refine Zb F.foff31_1 ?_; refine Zi F.lay22 ?_; refine Zav ?_; refine Zl ?_; refine Ze ?_
       exact K_cutX (decide (Zfl ≤ (Zu[atM Zu Zcj]).req)) (⟨fun h => ⟨by assumption, of_decide_eq_true h⟩, fun h => by have h6 := of_decide_eq_false h; exact doC_goes hcc hoo (by assumption) (fun m h9 => by have h8 := ofM_yes hcm (c := Zcj) (by assumption); replace h9 : ofM Zu Zcj = some m := h9; rw [h8] at h9; cases h9; show (Zu[atM Zu Zcj]).req < Zfl; omega)⟩) (.cons (k := 53) rfl (.cons (k := 9) rfl (.cons (k := 7) rfl (.cons (k := 6) rfl (.cons (k := 5) rfl (.cons (k := 4) rfl (.cons (k := 3) rfl (.cons (k := 2) rfl .nil)))))))) (fun w hw => by first | exact hw | exact hw.c)
      ·skip
       simp only [AnswerV.eta, MarkV.eta, CellV.eta, HeldV.eta, WaitV.eta, ServerV.eta, PeerV.eta, OpV.eta, ParcelV.eta, PostV.eta, WorkerV.eta] at hc9
       iterate 9 refine Zz ?_
       refine Zl ?_; refine Ze ?_
       exact K_cutX (false) (⟨fun h => (by cases h), fun _ => doC_new hcc hoo (by assumption) (ofM_not hcm (by assumption))⟩) (.cons (k := 53) rfl (.cons (k := 9) rfl (.cons (k := 7) rfl (.cons (k := 6) rfl (.cons (k := 5) rfl (.cons (k := 4) rfl (.cons (k := 3) rfl (.cons (k := 2) rfl .nil)))))))) (fun w hw => by first | exact hw | exact hw.c)
     ·rintro b ⟨hb1, hb2⟩
      refine Zau rfl (fun hc10 => ?_) (fun hc10 => ?_)
      ·skip
       iterate 2 refine Zj ?_
       obtain ⟨hi9, hge9⟩ := hb1 (by assumption)
       have hlt9 := Zgt hi9
       refine Zar (l := [0, 1, 2, 3, 4, 5, 6, 7, 8]) #[0, 1, 0, 7, 15, 31, 0, 64, 255] _ rfl (by kernel_rfl) (by kernel_rfl) St.drawn (fun _ h => h) ?_; refine Zb F.foff37_3 ?_; refine Zi F.lay35 ?_; refine Zf ?_; refine Zaa rfl rfl rfl rfl F.elem35 (by rfl) (by omega) (by exact SlM.plain (by assumption) (by (simp; omega))) rfl ?_; refine Zaq rfl rfl rfl (by exact SlM.plain (by assumption) (by (simp; omega))) F.foff92_1 rfl ?_; refine Zay rfl rfl rfl (by assumption) (by exact Zbl (by omega)) F.lay22 rfl rfl rfl ?_; refine Zb F.foff31_1 ?_; refine Zi F.lay22 ?_; refine Zav ?_; refine Ze ?_; refine Zc ?_; refine Y_pk [62, 9, 7, 6, 5, 4, 3, 2] ?_
       refine Zau rfl (fun hc11 => ?_) (fun hc11 => ?_)
       ·replace hc11 := dT hc11
        simp only [AnswerV.eta, MarkV.eta, CellV.eta, HeldV.eta, WaitV.eta, ServerV.eta, PeerV.eta, OpV.eta, ParcelV.eta, PostV.eta, WorkerV.eta] at hc11
        simp only [List.get_eq_getElem] at hc11
        refine Zj ?_; refine Za (l := [0, 1, 2, 3, 4, 5]) rfl ?_; refine Zi F.lay37 ?_; refine Zbv rfl rfl F.bld34 (.cons rfl (by constructor) .nil) rfl rfl ?_; refine Zas F.lay37 ?_; refine Zas F.lay34 ?_
        iterate 2 refine Zd ?_
        refine Ze ?_; refine Zc ?_; refine Y_pk [7, 6, 9, 5, 4, 3, 2] ?_; refine Zak ?_
        iterate 2 refine Zba ?_
        refine Zaj (.inr rfl) (.cell rfl (by repeat first | exact List.Mem.head _ | refine List.Mem.tail _ ?_ | refine List.mem_append_right _ ?_) F.lay37 rfl rfl (.cell rfl (by repeat first | exact List.Mem.head _ | refine List.Mem.tail _ ?_ | refine List.mem_append_right _ ?_) F.lay34 rfl rfl (.tmp rfl (.tmp rfl .nil)))) (fun w hw => ?_)
        refine ⟨_, M, rfl, Mem.le.refl M, hw.c, ?_⟩
        rw [doC_is hcc hoo (by assumption) (ofM_yes hcm (c := Zcj) (by assumption)), if_neg (by show ¬ (Zu[atM Zu Zcj]).req = Zfl; omega), if_pos (by show Zfl < (Zu[atM Zu Zcj]).req; omega)]
        exact ⟨⟨Zbg, Zdv, Zdx, ⟨Zbi, Zbh, Zu⟩⟩, rfl, rfl, hc0⟩
       ·replace hc11 := dF hc11
        simp only [AnswerV.eta, MarkV.eta, CellV.eta, HeldV.eta, WaitV.eta, ServerV.eta, PeerV.eta, OpV.eta, ParcelV.eta, PostV.eta, WorkerV.eta] at hc11
        simp only [List.get_eq_getElem] at hc11
        refine Zax ?_; refine Zc ?_; refine Y_pk [9, 7, 6, 5, 4, 3, 2] ?_; refine Zj ?_; refine Zdt (l := [0, 1, 2, 3, 4, 5, 6, 7, 8, 9, 10]) (Hin := [(b3, _)]) (Hin2 := [(b4, _)]) [7, 8] #[0, 0, 2, 0, 14, 30, 62, 1, 255, 511, 1023] (by repeat first | exact Rem.here _ | exact Rem.two | apply Rem.skip | apply Rem.over) (by repeat first | exact Rem.here _ | exact Rem.two | apply Rem.skip | apply Rem.over) rfl (by kernel_rfl) (by kernel_rfl) ?_; refine Zi F.lay37 ?_; refine Zb F.foff37_3 ?_; refine Zi F.lay35 ?_; refine Zf ?_; refine Zaa rfl rfl rfl rfl F.elem35 (by rfl) (by omega) (by exact SlM.plain (by assumption) (by (simp; omega))) rfl ?_; refine Zaq rfl rfl rfl (by exact SlM.plain (by assumption) (by (simp; omega))) F.foff92_2 rfl ?_; refine Zay rfl rfl rfl (by assumption) (by exact Zbl (by omega)) F.lay34 rfl rfl rfl ?_
        refine Zdd rfl rfl rfl rfl rfl (by constructor) (by ((try simp only [cat, List.cons_append, List.nil_append, List.append_nil]); (repeat (first | exact Zbp | refine Zcb ?_ | (refine Zam ?_ ?_; rfl))); done)) (by repeat first | exact Upd.head | apply Upd.tail | apply Upd.over) F.lay37 rfl rfl (fun _ h => h.c) ?_; refine Zdd rfl rfl rfl rfl rfl (by constructor) (by ((try simp only [cat, List.cons_append, List.nil_append, List.append_nil]); (repeat (first | exact Zbp | refine Zcb ?_ | (refine Zam ?_ ?_; rfl))); done)) (by repeat first | exact Upd.head | apply Upd.tail | apply Upd.over) F.lay34 rfl rfl (fun _ h => h.c) ?_
        iterate 2 refine Zd ?_
        refine Ze ?_; refine Zen ?_; refine Zc ?_; refine Y_pk [7, 6, 5, 4, 3, 2] ?_; refine Zak ?_; refine Zba ?_
        refine Zaj (.inr rfl) (.cell rfl (by repeat first | exact List.Mem.head _ | refine List.Mem.tail _ ?_ | refine List.mem_append_right _ ?_) F.lay37 rfl rfl (.cell rfl (by repeat first | exact List.Mem.head _ | refine List.Mem.tail _ ?_ | refine List.mem_append_right _ ?_) F.lay34 rfl rfl (.tmp rfl (.tmp rfl .nil)))) (fun w hw => ?_)
        refine ⟨_, M, rfl, Mem.le.refl M, hw.c, ?_⟩
        rw [doC_is hcc hoo (by assumption) (ofM_yes hcm (c := Zcj) (by assumption)), if_pos (by show (Zu[atM Zu Zcj]).req = Zfl; omega)]
        exact ⟨⟨Zbg, Zdv, Zdx, ⟨Zbi, Zbh, Zu⟩⟩, rfl, rfl, hc0⟩
      ·skip
       refine Zax ?_; refine Zc ?_; refine Y_pk [7, 6, 5, 4, 3, 2] ?_; refine Zj ?_
       have hgo := hb2 (by assumption)
       refine Za (l := [0, 1]) rfl ?_
       iterate 2 refine Zd ?_
       refine Ze ?_; refine Zc ?_
       iterate 2 refine Zj ?_
       refine Za (l := [0, 1]) rfl ?_; refine Zb F.foff31_2 ?_; refine Zi F.lay3 ?_; refine Ze ?_; refine Zc ?_; refine Y_pk [73, 12, 11, 7, 6, 5, 4, 3, 2] ?_; refine Zbe ?_; refine Zj ?_; refine Zbe ?_; refine Zj ?_; refine Zbe ?_
       iterate 3 refine Zj ?_
       refine Za (l := [0, 1]) rfl ?_; refine Zav ?_; refine Zd ?_; refine Ze ?_; refine Zc ?_; refine Y_pk [74, 73, 12, 11, 7, 6, 5, 4, 3, 2] ?_
       refine C_part 74 rfl (fun hc12 => ?_) (fun hc12 => ?_)
       ·replace hc12 := dT hc12
        refine Zcy rfl ?_; refine Zax ?_; refine Zc ?_; refine Y_pk [74, 12, 11, 7, 6, 5, 4, 3, 2] ?_; refine Zcy rfl ?_; refine Zcm ?_; refine Zcd ?_; refine Zdl ?_; refine Zc ?_; refine Y_pk [12, 11, 7, 6, 5, 4, 3, 2] ?_; refine Zj ?_; refine Za (l := [0, 1, 2, 3, 4]) rfl ?_; refine Zb F.foff31_3 ?_; refine Zi F.lay22 ?_; refine Zb F.foff37_0 ?_; refine Zi F.lay22 ?_; refine Zav ?_; refine Ze ?_; refine Zc ?_; refine Y_pk [81, 12, 11, 7, 6, 5, 4, 3, 2] ?_
        refine Zau rfl (fun hc13 => ?_) (fun hc13 => ?_)
        ·replace hc13 := nT hc13
         refine Zj ?_; refine Za (l := [0, 1]) rfl ?_
         iterate 2 refine Zd ?_
         refine Ze ?_; refine Zc ?_; refine Y_pk [12, 11, 7, 6, 5, 4, 3, 2] ?_; refine Zcm ?_; refine Zgr (by decide) ?_; refine Zcd ?_; refine Zdl ?_; refine Zc ?_; refine Zj ?_; refine Za (l := [0, 1, 2, 3, 4]) rfl ?_; refine Zi F.lay37 ?_; refine Zf ?_; refine X_fs rfl rfl F.ok91 rfl (now_ok _ ⟨_, _, _, ⟨_, _, _⟩⟩ _ ⟨Zbs⟩) rfl ?_
         rintro _ rfl
         refine Zby F.zero34 ?_; intro b14
         refine Zas F.lay34 ?_; refine Ze ?_; refine Zc ?_; refine Y_pk [13, 11, 7, 6, 5, 4, 3, 2] ?_; refine Zj ?_; refine Za (l := [0, 1, 2, 3, 4, 5, 6, 7, 8, 9, 10]) rfl ?_; refine Zb F.foff37_3 ?_; refine Zi F.lay35 ?_; refine Zb F.foff31_0 ?_; refine Zi F.lay3 ?_; refine Zb F.foff31_1 ?_; refine Zi F.lay22 ?_; refine Zi F.lay34 ?_; refine Zbv rfl rfl F.bld92 (.cons rfl (by constructor) (.cons rfl (by constructor) (.cons rfl (by constructor) .nil))) rfl rfl ?_; refine X_fn rfl rfl F.ok93 rfl (put_ok _ ⟨Zbi, Zbh, Zu⟩ (⟨Zcj, Zfl, ⟨8, Zbg, Zdv, ⟨#[]⟩⟩⟩ : MarkV) Zbs hcm (by refine ⟨hoc, ?_⟩; unfold AnsOk; exact ⟨rfl, by first | exact .inl rfl | exact .inr rfl⟩)) rfl ?_
         rintro _ M1 hm1 ⟨⟨q_a, q_c, q_l⟩, rfl, hql, k_q⟩
         simp only at hql
         refine Zb F.foff37_3 ?_; refine Zas F.lay35 ?_; refine Ze ?_; refine Zc ?_; refine Y_pk [13, 11, 7, 6, 5, 4, 2] ?_; refine Zj ?_; refine Zdt (l := [0, 1, 2, 3, 4, 5, 6]) (Hin := [(b3, _)]) (Hin2 := [(b4, _)]) [3, 4] #[0, 0, 0, 1, 11, 31, 63] (by repeat first | exact Rem.here _ | exact Rem.two | apply Rem.skip | apply Rem.over) (by repeat first | exact Rem.here _ | exact Rem.two | apply Rem.skip | apply Rem.over) rfl (by kernel_rfl) (by kernel_rfl) ?_; refine Zi F.lay37 ?_; refine Zi F.lay34 ?_; refine Zf ?_; refine Zdd rfl rfl rfl rfl rfl (by constructor) (by ((try simp only [cat, List.cons_append, List.nil_append, List.append_nil]); (repeat (first | exact Zbp | refine Zcb ?_ | (refine Zam ?_ ?_; rfl))); done)) (by repeat first | exact Upd.head | apply Upd.tail | apply Upd.over) F.lay37 rfl rfl (fun _ h => h.c) ?_
         refine Zdd rfl rfl rfl rfl rfl (by constructor) (by ((try simp only [cat, List.cons_append, List.nil_append, List.append_nil]); (repeat (first | exact Zbp | refine Zcb ?_ | (refine Zam ?_ ?_; rfl))); done)) (by repeat first | exact Upd.head | apply Upd.tail | apply Upd.over) F.lay34 rfl rfl (fun _ h => h.c) ?_
         iterate 2 refine Zd ?_
         refine Ze ?_; refine Zen ?_; refine Zc ?_; refine Y_pk [7, 6, 5, 4] ?_; refine Zak ?_
         refine Zaj (.inr rfl) (.cell rfl (by repeat first | exact List.Mem.head _ | refine List.Mem.tail _ ?_ | refine List.mem_append_right _ ?_) F.lay37 rfl rfl (.cell rfl (by repeat first | exact List.Mem.head _ | refine List.Mem.tail _ ?_ | refine List.mem_append_right _ ?_) F.lay34 rfl rfl (.tmp rfl (.tmp rfl .nil)))) (fun w hw => ?_)
         refine ⟨_, M1, rfl, hm1, hw.c, ?_⟩
         rw [hgo, goesC_no ⟨by show Zee ≠ 2; omega, by assumption⟩]
         exact ⟨⟨Zbg, Zdv, Zdx, ⟨q_a, q_c, q_l⟩⟩, rfl, by show Cel.mk _ _ _ q_l = _; rw [hql]; rfl, ⟨k_q⟩⟩
        ·replace hc13 := nF hc13
         refine Zax ?_; refine Zde ?_; refine Zc ?_; refine Y_pk [12, 11, 7, 6, 5, 4, 3, 2] ?_; refine Zj ?_; refine C_region_anyWR (l := [0, 1, 2, 3, 4, 5, 6, 7, 8, 9, 10, 11, 12, 13]) (Hin := [(b1, _)]) [9, 11, 13, 1] #[0, 1, 3, 0, 8, 24, 0, 64, 7, 263, 831, 1855, 4095, 8191] (by repeat first | exact Rem.here _ | exact Rem.two | apply Rem.skip | apply Rem.over) rfl (by kernel_rfl) (by kernel_rfl) ?_; refine Zb F.foff37_0 ?_; refine X_loadA rfl rfl rfl rfl (by repeat first | exact List.Mem.head _ | refine List.Mem.tail _ ?_ | refine List.mem_append_right _ ?_) F.lay22 rfl rfl rfl ?_; refine Zcc rfl rfl rfl rfl rfl (by exact wrap_u64 _) rfl ?_
         obtain ⟨v9, hv9⟩ : ∃ v, w64 (Zbg + 1) = v := ⟨_, rfl⟩
         refine Zgq 84 rfl (show _ = Value.int .u64 v9 from congrArg (Value.int .u64) hv9) ?_; refine Zb F.foff31_2 ?_; refine Zi F.lay3 ?_; refine Zav ?_
         obtain ⟨b9, hb9⟩ : ∃ b, (!decide (Zee = 4)) = b := ⟨_, rfl⟩
         refine Zgq 87 rfl (show _ = Value.bool b9 from congrArg Value.bool hb9) ?_; refine Zb F.foff31_4 ?_; refine Zi F.lay9 ?_; refine Zb F.foff37_0 ?_; refine Zdd rfl rfl rfl rfl rfl (by constructor) (by ((try simp only [cat, List.cons_append, List.nil_append, List.append_nil]); (repeat (first | exact Zbp | refine Zcb ?_ | (refine Zam ?_ ?_; rfl))); done)) (by repeat first | exact Upd.head | apply Upd.tail | apply Upd.over) F.lay22 rfl rfl (fun _ h => h.c) ?_; refine Zb F.foff37_1 ?_; refine Zdd rfl rfl rfl rfl rfl (by constructor) (by ((try simp only [cat, List.cons_append, List.nil_append, List.append_nil]); (repeat (first | exact Zbp | refine Zcb ?_ | (refine Zam ?_ ?_; rfl))); done)) (by repeat first | exact Upd.head | apply Upd.tail | apply Upd.over) F.lay4 rfl rfl (fun _ h => h.c) ?_; refine Zb F.foff37_2 ?_
         refine Zdd rfl rfl rfl rfl rfl (by constructor) (by ((try simp only [cat, List.cons_append, List.nil_append, List.append_nil]); (repeat (first | exact Zbp | refine Zcb ?_ | (refine Zam ?_ ?_; rfl))); done)) (by repeat first | exact Upd.head | apply Upd.tail | apply Upd.over) F.lay9 rfl rfl (fun _ h => h.c) ?_; refine Ze ?_; refine Zen ?_; refine Zc ?_; refine Y_pk [12, 11, 7, 6, 5, 4, 3, 2] ?_; refine Zcm ?_; refine Zdl ?_; refine Zc ?_; refine Zj ?_; refine Za (l := [0, 1, 2, 3, 4]) rfl ?_; refine Zi F.lay37 ?_; refine Zf ?_; refine X_fs rfl rfl F.ok91 rfl (now_ok _ ⟨_, _, _, ⟨_, _, _⟩⟩ _ ⟨Zbs⟩) rfl ?_
         rintro _ rfl
         refine Zby F.zero34 ?_; intro b15
         refine Zas F.lay34 ?_; refine Ze ?_; refine Zc ?_; refine Y_pk [13, 11, 7, 6, 5, 4, 3, 2] ?_; refine Zj ?_; refine Za (l := [0, 1, 2, 3, 4, 5, 6, 7, 8, 9, 10]) rfl ?_; refine Zb F.foff37_3 ?_; refine Zi F.lay35 ?_; refine Zb F.foff31_0 ?_; refine Zi F.lay3 ?_; refine Zb F.foff31_1 ?_; refine Zi F.lay22 ?_; refine Zi F.lay34 ?_; refine Zbv rfl rfl F.bld92 (.cons rfl (by constructor) (.cons rfl (by constructor) (.cons rfl (by constructor) .nil))) rfl rfl ?_; refine X_fn rfl rfl F.ok93 rfl (put_ok _ ⟨Zbi, Zbh, Zu⟩ (⟨Zcj, Zfl, ⟨0, v9, b9, ⟨#[]⟩⟩⟩ : MarkV) Zbs hcm (by refine ⟨hoc, ?_⟩; unfold AnsOk; exact ⟨rfl, by first | exact .inl rfl | exact .inr rfl⟩)) rfl ?_
         rintro _ M1 hm1 ⟨⟨q_a, q_c, q_l⟩, rfl, hql, k_q⟩
         simp only at hql
         refine Zb F.foff37_3 ?_; refine Zas F.lay35 ?_; refine Ze ?_; refine Zc ?_; refine Y_pk [13, 11, 7, 6, 5, 4, 2] ?_; refine Zj ?_; refine Zdt (l := [0, 1, 2, 3, 4, 5, 6]) (Hin := [(b3, _)]) (Hin2 := [(b4, _)]) [3, 4] #[0, 0, 0, 1, 11, 31, 63] (by repeat first | exact Rem.here _ | exact Rem.two | apply Rem.skip | apply Rem.over) (by repeat first | exact Rem.here _ | exact Rem.two | apply Rem.skip | apply Rem.over) rfl (by kernel_rfl) (by kernel_rfl) ?_; refine Zi F.lay37 ?_; refine Zi F.lay34 ?_; refine Zf ?_; refine Zdd rfl rfl rfl rfl rfl (by constructor) (by ((try simp only [cat, List.cons_append, List.nil_append, List.append_nil]); (repeat (first | exact Zbp | refine Zcb ?_ | (refine Zam ?_ ?_; rfl))); done)) (by repeat first | exact Upd.head | apply Upd.tail | apply Upd.over) F.lay37 rfl rfl (fun _ h => h.c) ?_
         refine Zdd rfl rfl rfl rfl rfl (by constructor) (by ((try simp only [cat, List.cons_append, List.nil_append, List.append_nil]); (repeat (first | exact Zbp | refine Zcb ?_ | (refine Zam ?_ ?_; rfl))); done)) (by repeat first | exact Upd.head | apply Upd.tail | apply Upd.over) F.lay34 rfl rfl (fun _ h => h.c) ?_
         iterate 2 refine Zd ?_
         refine Ze ?_; refine Zen ?_; refine Zc ?_; refine Y_pk [7, 6, 5, 4] ?_; refine Zak ?_
         refine Zaj (.inr rfl) (.cell rfl (by repeat first | exact List.Mem.head _ | refine List.Mem.tail _ ?_ | refine List.mem_append_right _ ?_) F.lay37 rfl rfl (.cell rfl (by repeat first | exact List.Mem.head _ | refine List.Mem.tail _ ?_ | refine List.mem_append_right _ ?_) F.lay34 rfl rfl (.tmp rfl (.tmp rfl .nil)))) (fun w hw => ?_)
         refine ⟨_, M1, rfl, hm1, hw.c, ?_⟩
         rw [hgo, goesC_yes (by rintro ⟨g1, g2⟩; replace g1 : Zee ≠ 2 := g1; replace g2 : Zdz ≠ Zbg := g2; have h7 := hoo.2; simp only at h7; omega)]
         show DoE _ _ (Cel.mk (w64 (Zbg + 1)) ((!decide (Zee = 4))) Zgj (markC _ _ ⟨0, w64 (Zbg + 1), (!decide (Zee = 4)), ⟨#[]⟩⟩), ⟨0, w64 (Zbg + 1), (!decide (Zee = 4)), ⟨#[]⟩⟩, true, 0)
         rw [hv9, hb9]
         exact ⟨⟨v9, b9, Zgj, ⟨q_a, q_c, q_l⟩⟩, rfl, by show Cel.mk _ _ _ q_l = _; rw [hql]; rfl, ⟨k_q⟩⟩
       ·replace hc12 := dF hc12
        refine Zeu rfl ?_; refine Za (l := [0, 1]) rfl ?_; refine Zav ?_; refine Zd ?_; refine Ze ?_; refine Zc ?_; refine Y_pk [74, 12, 11, 7, 6, 5, 4, 3, 2] ?_
        refine Zau rfl (fun hc16 => ?_) (fun hc16 => ?_)
        ·replace hc16 := dT hc16
         refine Zcm ?_; refine Zcd ?_; refine Zdl ?_; refine Zc ?_; refine Y_pk [12, 11, 7, 6, 5, 4, 3, 2] ?_; refine Zj ?_; refine Za (l := [0, 1, 2, 3, 4]) rfl ?_; refine Zb F.foff31_3 ?_; refine Zi F.lay22 ?_; refine Zb F.foff37_0 ?_; refine Zi F.lay22 ?_; refine Zav ?_; refine Ze ?_; refine Zc ?_; refine Y_pk [81, 12, 11, 7, 6, 5, 4, 3, 2] ?_
         refine Zau rfl (fun hc17 => ?_) (fun hc17 => ?_)
         ·replace hc17 := nT hc17
          refine Zj ?_; refine Za (l := [0, 1]) rfl ?_
          iterate 2 refine Zd ?_
          refine Ze ?_; refine Zc ?_; refine Y_pk [12, 11, 7, 6, 5, 4, 3, 2] ?_; refine Zcm ?_; refine Zgr (by decide) ?_; refine Zcd ?_; refine Zdl ?_; refine Zc ?_; refine Zj ?_; refine Za (l := [0, 1, 2, 3, 4]) rfl ?_; refine Zi F.lay37 ?_; refine Zf ?_; refine X_fs rfl rfl F.ok91 rfl (now_ok _ ⟨_, _, _, ⟨_, _, _⟩⟩ _ ⟨Zbs⟩) rfl ?_
          rintro _ rfl
          refine Zby F.zero34 ?_; intro b18
          refine Zas F.lay34 ?_; refine Ze ?_; refine Zc ?_; refine Y_pk [13, 11, 7, 6, 5, 4, 3, 2] ?_; refine Zj ?_; refine Za (l := [0, 1, 2, 3, 4, 5, 6, 7, 8, 9, 10]) rfl ?_; refine Zb F.foff37_3 ?_; refine Zi F.lay35 ?_; refine Zb F.foff31_0 ?_; refine Zi F.lay3 ?_; refine Zb F.foff31_1 ?_; refine Zi F.lay22 ?_; refine Zi F.lay34 ?_; refine Zbv rfl rfl F.bld92 (.cons rfl (by constructor) (.cons rfl (by constructor) (.cons rfl (by constructor) .nil))) rfl rfl ?_; refine X_fn rfl rfl F.ok93 rfl (put_ok _ ⟨Zbi, Zbh, Zu⟩ (⟨Zcj, Zfl, ⟨8, Zbg, Zdv, ⟨#[]⟩⟩⟩ : MarkV) Zbs hcm (by refine ⟨hoc, ?_⟩; unfold AnsOk; exact ⟨rfl, by first | exact .inl rfl | exact .inr rfl⟩)) rfl ?_
          rintro _ M1 hm1 ⟨⟨q_a, q_c, q_l⟩, rfl, hql, k_q⟩
          simp only at hql
          refine Zb F.foff37_3 ?_; refine Zas F.lay35 ?_; refine Ze ?_; refine Zc ?_; refine Y_pk [13, 11, 7, 6, 5, 4, 2] ?_; refine Zj ?_; refine Zdt (l := [0, 1, 2, 3, 4, 5, 6]) (Hin := [(b3, _)]) (Hin2 := [(b4, _)]) [3, 4] #[0, 0, 0, 1, 11, 31, 63] (by repeat first | exact Rem.here _ | exact Rem.two | apply Rem.skip | apply Rem.over) (by repeat first | exact Rem.here _ | exact Rem.two | apply Rem.skip | apply Rem.over) rfl (by kernel_rfl) (by kernel_rfl) ?_; refine Zi F.lay37 ?_; refine Zi F.lay34 ?_; refine Zf ?_; refine Zdd rfl rfl rfl rfl rfl (by constructor) (by ((try simp only [cat, List.cons_append, List.nil_append, List.append_nil]); (repeat (first | exact Zbp | refine Zcb ?_ | (refine Zam ?_ ?_; rfl))); done)) (by repeat first | exact Upd.head | apply Upd.tail | apply Upd.over) F.lay37 rfl rfl (fun _ h => h.c) ?_
          refine Zdd rfl rfl rfl rfl rfl (by constructor) (by ((try simp only [cat, List.cons_append, List.nil_append, List.append_nil]); (repeat (first | exact Zbp | refine Zcb ?_ | (refine Zam ?_ ?_; rfl))); done)) (by repeat first | exact Upd.head | apply Upd.tail | apply Upd.over) F.lay34 rfl rfl (fun _ h => h.c) ?_
          iterate 2 refine Zd ?_
          refine Ze ?_; refine Zen ?_; refine Zc ?_; refine Y_pk [7, 6, 5, 4] ?_; refine Zak ?_
          refine Zaj (.inr rfl) (.cell rfl (by repeat first | exact List.Mem.head _ | refine List.Mem.tail _ ?_ | refine List.mem_append_right _ ?_) F.lay37 rfl rfl (.cell rfl (by repeat first | exact List.Mem.head _ | refine List.Mem.tail _ ?_ | refine List.mem_append_right _ ?_) F.lay34 rfl rfl (.tmp rfl (.tmp rfl .nil)))) (fun w hw => ?_)
          refine ⟨_, M1, rfl, hm1, hw.c, ?_⟩
          rw [hgo, goesC_no ⟨by show Zee ≠ 2; omega, by assumption⟩]
          exact ⟨⟨Zbg, Zdv, Zdx, ⟨q_a, q_c, q_l⟩⟩, rfl, by show Cel.mk _ _ _ q_l = _; rw [hql]; rfl, ⟨k_q⟩⟩
         ·replace hc17 := nF hc17
          refine Zax ?_; refine Zde ?_; refine Zc ?_; refine Y_pk [12, 11, 7, 6, 5, 4, 3, 2] ?_; refine Zj ?_; refine C_region_anyWR (l := [0, 1, 2, 3, 4, 5, 6, 7, 8, 9, 10, 11, 12, 13]) (Hin := [(b1, _)]) [9, 11, 13, 1] #[0, 1, 3, 0, 8, 24, 0, 64, 7, 263, 831, 1855, 4095, 8191] (by repeat first | exact Rem.here _ | exact Rem.two | apply Rem.skip | apply Rem.over) rfl (by kernel_rfl) (by kernel_rfl) ?_; refine Zb F.foff37_0 ?_; refine X_loadA rfl rfl rfl rfl (by repeat first | exact List.Mem.head _ | refine List.Mem.tail _ ?_ | refine List.mem_append_right _ ?_) F.lay22 rfl rfl rfl ?_; refine Zcc rfl rfl rfl rfl rfl (by exact wrap_u64 _) rfl ?_
          obtain ⟨v9, hv9⟩ : ∃ v, w64 (Zbg + 1) = v := ⟨_, rfl⟩
          refine Zgq 84 rfl (show _ = Value.int .u64 v9 from congrArg (Value.int .u64) hv9) ?_; refine Zb F.foff31_2 ?_; refine Zi F.lay3 ?_; refine Zav ?_
          obtain ⟨b9, hb9⟩ : ∃ b, (!decide (Zee = 4)) = b := ⟨_, rfl⟩
          refine Zgq 87 rfl (show _ = Value.bool b9 from congrArg Value.bool hb9) ?_; refine Zb F.foff31_4 ?_; refine Zi F.lay9 ?_; refine Zb F.foff37_0 ?_; refine Zdd rfl rfl rfl rfl rfl (by constructor) (by ((try simp only [cat, List.cons_append, List.nil_append, List.append_nil]); (repeat (first | exact Zbp | refine Zcb ?_ | (refine Zam ?_ ?_; rfl))); done)) (by repeat first | exact Upd.head | apply Upd.tail | apply Upd.over) F.lay22 rfl rfl (fun _ h => h.c) ?_; refine Zb F.foff37_1 ?_; refine Zdd rfl rfl rfl rfl rfl (by constructor) (by ((try simp only [cat, List.cons_append, List.nil_append, List.append_nil]); (repeat (first | exact Zbp | refine Zcb ?_ | (refine Zam ?_ ?_; rfl))); done)) (by repeat first | exact Upd.head | apply Upd.tail | apply Upd.over) F.lay4 rfl rfl (fun _ h => h.c) ?_; refine Zb F.foff37_2 ?_
          refine Zdd rfl rfl rfl rfl rfl (by constructor) (by ((try simp only [cat, List.cons_append, List.nil_append, List.append_nil]); (repeat (first | exact Zbp | refine Zcb ?_ | (refine Zam ?_ ?_; rfl))); done)) (by repeat first | exact Upd.head | apply Upd.tail | apply Upd.over) F.lay9 rfl rfl (fun _ h => h.c) ?_; refine Ze ?_; refine Zen ?_; refine Zc ?_; refine Y_pk [12, 11, 7, 6, 5, 4, 3, 2] ?_; refine Zcm ?_; refine Zdl ?_; refine Zc ?_; refine Zj ?_; refine Za (l := [0, 1, 2, 3, 4]) rfl ?_; refine Zi F.lay37 ?_; refine Zf ?_; refine X_fs rfl rfl F.ok91 rfl (now_ok _ ⟨_, _, _, ⟨_, _, _⟩⟩ _ ⟨Zbs⟩) rfl ?_
          rintro _ rfl
          refine Zby F.zero34 ?_; intro b19
          refine Zas F.lay34 ?_; refine Ze ?_; refine Zc ?_; refine Y_pk [13, 11, 7, 6, 5, 4, 3, 2] ?_; refine Zj ?_; refine Za (l := [0, 1, 2, 3, 4, 5, 6, 7, 8, 9, 10]) rfl ?_; refine Zb F.foff37_3 ?_; refine Zi F.lay35 ?_; refine Zb F.foff31_0 ?_; refine Zi F.lay3 ?_; refine Zb F.foff31_1 ?_; refine Zi F.lay22 ?_; refine Zi F.lay34 ?_; refine Zbv rfl rfl F.bld92 (.cons rfl (by constructor) (.cons rfl (by constructor) (.cons rfl (by constructor) .nil))) rfl rfl ?_; refine X_fn rfl rfl F.ok93 rfl (put_ok _ ⟨Zbi, Zbh, Zu⟩ (⟨Zcj, Zfl, ⟨0, v9, b9, ⟨#[]⟩⟩⟩ : MarkV) Zbs hcm (by refine ⟨hoc, ?_⟩; unfold AnsOk; exact ⟨rfl, by first | exact .inl rfl | exact .inr rfl⟩)) rfl ?_
          rintro _ M1 hm1 ⟨⟨q_a, q_c, q_l⟩, rfl, hql, k_q⟩
          simp only at hql
          refine Zb F.foff37_3 ?_; refine Zas F.lay35 ?_; refine Ze ?_; refine Zc ?_; refine Y_pk [13, 11, 7, 6, 5, 4, 2] ?_; refine Zj ?_; refine Zdt (l := [0, 1, 2, 3, 4, 5, 6]) (Hin := [(b3, _)]) (Hin2 := [(b4, _)]) [3, 4] #[0, 0, 0, 1, 11, 31, 63] (by repeat first | exact Rem.here _ | exact Rem.two | apply Rem.skip | apply Rem.over) (by repeat first | exact Rem.here _ | exact Rem.two | apply Rem.skip | apply Rem.over) rfl (by kernel_rfl) (by kernel_rfl) ?_; refine Zi F.lay37 ?_; refine Zi F.lay34 ?_; refine Zf ?_; refine Zdd rfl rfl rfl rfl rfl (by constructor) (by ((try simp only [cat, List.cons_append, List.nil_append, List.append_nil]); (repeat (first | exact Zbp | refine Zcb ?_ | (refine Zam ?_ ?_; rfl))); done)) (by repeat first | exact Upd.head | apply Upd.tail | apply Upd.over) F.lay37 rfl rfl (fun _ h => h.c) ?_
          refine Zdd rfl rfl rfl rfl rfl (by constructor) (by ((try simp only [cat, List.cons_append, List.nil_append, List.append_nil]); (repeat (first | exact Zbp | refine Zcb ?_ | (refine Zam ?_ ?_; rfl))); done)) (by repeat first | exact Upd.head | apply Upd.tail | apply Upd.over) F.lay34 rfl rfl (fun _ h => h.c) ?_
          iterate 2 refine Zd ?_
          refine Ze ?_; refine Zen ?_; refine Zc ?_; refine Y_pk [7, 6, 5, 4] ?_; refine Zak ?_
          refine Zaj (.inr rfl) (.cell rfl (by repeat first | exact List.Mem.head _ | refine List.Mem.tail _ ?_ | refine List.mem_append_right _ ?_) F.lay37 rfl rfl (.cell rfl (by repeat first | exact List.Mem.head _ | refine List.Mem.tail _ ?_ | refine List.mem_append_right _ ?_) F.lay34 rfl rfl (.tmp rfl (.tmp rfl .nil)))) (fun w hw => ?_)
          refine ⟨_, M1, rfl, hm1, hw.c, ?_⟩
          rw [hgo, goesC_yes (by rintro ⟨g1, g2⟩; replace g1 : Zee ≠ 2 := g1; replace g2 : Zdz ≠ Zbg := g2; have h7 := hoo.2; simp only at h7; omega)]
          show DoE _ _ (Cel.mk (w64 (Zbg + 1)) ((!decide (Zee = 4))) Zgj (markC _ _ ⟨0, w64 (Zbg + 1), (!decide (Zee = 4)), ⟨#[]⟩⟩), ⟨0, w64 (Zbg + 1), (!decide (Zee = 4)), ⟨#[]⟩⟩, true, 0)
          rw [hv9, hb9]
          exact ⟨⟨v9, b9, Zgj, ⟨q_a, q_c, q_l⟩⟩, rfl, by show Cel.mk _ _ _ q_l = _; rw [hql]; rfl, ⟨k_q⟩⟩
        ·replace hc16 := dF hc16
         refine Zax ?_; refine Zc ?_; refine Y_pk [12, 11, 7, 6, 5, 4, 3, 2] ?_; refine Zcm ?_; refine Zgr (by decide) ?_; refine Zcd ?_; refine Zdl ?_; refine Zc ?_; refine Zj ?_; refine C_region_anyWR (l := [0, 1, 2, 3, 4, 5, 6, 7, 8, 9, 10, 11, 12, 13]) (Hin := [(b1, _)]) [9, 11, 13, 1] #[0, 1, 3, 0, 8, 24, 0, 64, 7, 263, 831, 1855, 4095, 8191] (by repeat first | exact Rem.here _ | exact Rem.two | apply Rem.skip | apply Rem.over) rfl (by kernel_rfl) (by kernel_rfl) ?_; refine Zb F.foff37_0 ?_; refine X_loadA rfl rfl rfl rfl (by repeat first | exact List.Mem.head _ | refine List.Mem.tail _ ?_ | refine List.mem_append_right _ ?_) F.lay22 rfl rfl rfl ?_; refine Zcc rfl rfl rfl rfl rfl (by exact wrap_u64 _) rfl ?_
         obtain ⟨v9, hv9⟩ : ∃ v, w64 (Zbg + 1) = v := ⟨_, rfl⟩
         refine Zgq 84 rfl (show _ = Value.int .u64 v9 from congrArg (Value.int .u64) hv9) ?_; refine Zb F.foff31_2 ?_; refine Zi F.lay3 ?_; refine Zav ?_
         obtain ⟨b9, hb9⟩ : ∃ b, (!decide (Zee = 4)) = b := ⟨_, rfl⟩
         refine Zgq 87 rfl (show _ = Value.bool b9 from congrArg Value.bool hb9) ?_; refine Zb F.foff31_4 ?_; refine Zi F.lay9 ?_; refine Zb F.foff37_0 ?_; refine Zdd rfl rfl rfl rfl rfl (by constructor) (by ((try simp only [cat, List.cons_append, List.nil_append, List.append_nil]); (repeat (first | exact Zbp | refine Zcb ?_ | (refine Zam ?_ ?_; rfl))); done)) (by repeat first | exact Upd.head | apply Upd.tail | apply Upd.over) F.lay22 rfl rfl (fun _ h => h.c) ?_; refine Zb F.foff37_1 ?_; refine Zdd rfl rfl rfl rfl rfl (by constructor) (by ((try simp only [cat, List.cons_append, List.nil_append, List.append_nil]); (repeat (first | exact Zbp | refine Zcb ?_ | (refine Zam ?_ ?_; rfl))); done)) (by repeat first | exact Upd.head | apply Upd.tail | apply Upd.over) F.lay4 rfl rfl (fun _ h => h.c) ?_; refine Zb F.foff37_2 ?_
         refine Zdd rfl rfl rfl rfl rfl (by constructor) (by ((try simp only [cat, List.cons_append, List.nil_append, List.append_nil]); (repeat (first | exact Zbp | refine Zcb ?_ | (refine Zam ?_ ?_; rfl))); done)) (by repeat first | exact Upd.head | apply Upd.tail | apply Upd.over) F.lay9 rfl rfl (fun _ h => h.c) ?_; refine Ze ?_; refine Zen ?_; refine Zc ?_; refine Y_pk [12, 11, 7, 6, 5, 4, 3, 2] ?_; refine Zcm ?_; refine Zdl ?_; refine Zc ?_; refine Zj ?_; refine Za (l := [0, 1, 2, 3, 4]) rfl ?_; refine Zi F.lay37 ?_; refine Zf ?_; refine X_fs rfl rfl F.ok91 rfl (now_ok _ ⟨_, _, _, ⟨_, _, _⟩⟩ _ ⟨Zbs⟩) rfl ?_
         rintro _ rfl
         refine Zby F.zero34 ?_; intro b20
         refine Zas F.lay34 ?_; refine Ze ?_; refine Zc ?_; refine Y_pk [13, 11, 7, 6, 5, 4, 3, 2] ?_; refine Zj ?_; refine Za (l := [0, 1, 2, 3, 4, 5, 6, 7, 8, 9, 10]) rfl ?_; refine Zb F.foff37_3 ?_; refine Zi F.lay35 ?_; refine Zb F.foff31_0 ?_; refine Zi F.lay3 ?_; refine Zb F.foff31_1 ?_; refine Zi F.lay22 ?_; refine Zi F.lay34 ?_; refine Zbv rfl rfl F.bld92 (.cons rfl (by constructor) (.cons rfl (by constructor) (.cons rfl (by constructor) .nil))) rfl rfl ?_; refine X_fn rfl rfl F.ok93 rfl (put_ok _ ⟨Zbi, Zbh, Zu⟩ (⟨Zcj, Zfl, ⟨0, v9, b9, ⟨#[]⟩⟩⟩ : MarkV) Zbs hcm (by refine ⟨hoc, ?_⟩; unfold AnsOk; exact ⟨rfl, by first | exact .inl rfl | exact .inr rfl⟩)) rfl ?_
         rintro _ M1 hm1 ⟨⟨q_a, q_c, q_l⟩, rfl, hql, k_q⟩
         simp only at hql
         refine Zb F.foff37_3 ?_; refine Zas F.lay35 ?_; refine Ze ?_; refine Zc ?_; refine Y_pk [13, 11, 7, 6, 5, 4, 2] ?_; refine Zj ?_; refine Zdt (l := [0, 1, 2, 3, 4, 5, 6]) (Hin := [(b3, _)]) (Hin2 := [(b4, _)]) [3, 4] #[0, 0, 0, 1, 11, 31, 63] (by repeat first | exact Rem.here _ | exact Rem.two | apply Rem.skip | apply Rem.over) (by repeat first | exact Rem.here _ | exact Rem.two | apply Rem.skip | apply Rem.over) rfl (by kernel_rfl) (by kernel_rfl) ?_; refine Zi F.lay37 ?_; refine Zi F.lay34 ?_; refine Zf ?_; refine Zdd rfl rfl rfl rfl rfl (by constructor) (by ((try simp only [cat, List.cons_append, List.nil_append, List.append_nil]); (repeat (first | exact Zbp | refine Zcb ?_ | (refine Zam ?_ ?_; rfl))); done)) (by repeat first | exact Upd.head | apply Upd.tail | apply Upd.over) F.lay37 rfl rfl (fun _ h => h.c) ?_
         refine Zdd rfl rfl rfl rfl rfl (by constructor) (by ((try simp only [cat, List.cons_append, List.nil_append, List.append_nil]); (repeat (first | exact Zbp | refine Zcb ?_ | (refine Zam ?_ ?_; rfl))); done)) (by repeat first | exact Upd.head | apply Upd.tail | apply Upd.over) F.lay34 rfl rfl (fun _ h => h.c) ?_
         iterate 2 refine Zd ?_
         refine Ze ?_; refine Zen ?_; refine Zc ?_; refine Y_pk [7, 6, 5, 4] ?_; refine Zak ?_
         refine Zaj (.inr rfl) (.cell rfl (by repeat first | exact List.Mem.head _ | refine List.Mem.tail _ ?_ | refine List.mem_append_right _ ?_) F.lay37 rfl rfl (.cell rfl (by repeat first | exact List.Mem.head _ | refine List.Mem.tail _ ?_ | refine List.mem_append_right _ ?_) F.lay34 rfl rfl (.tmp rfl (.tmp rfl .nil)))) (fun w hw => ?_)
         refine ⟨_, M1, rfl, hm1, hw.c, ?_⟩
         rw [hgo, goesC_yes (by rintro ⟨g1, g2⟩; replace g1 : Zee ≠ 2 := g1; replace g2 : Zdz ≠ Zbg := g2; have h7 := hoo.2; simp only at h7; omega)]
         show DoE _ _ (Cel.mk (w64 (Zbg + 1)) ((!decide (Zee = 4))) Zgj (markC _ _ ⟨0, w64 (Zbg + 1), (!decide (Zee = 4)), ⟨#[]⟩⟩), ⟨0, w64 (Zbg + 1), (!decide (Zee = 4)), ⟨#[]⟩⟩, true, 0)
         rw [hv9, hb9]
         exact ⟨⟨v9, b9, Zgj, ⟨q_a, q_c, q_l⟩⟩, rfl, by show Cel.mk _ _ _ q_l = _; rw [hql]; rfl, ⟨k_q⟩⟩
end Go.Proofs.YtpkeilhilpogiaaGreat
namespace Go.Proofs.YtpkeilhilpogiaaGreat
open Go.Esp
theorem F.foff34_1 : foff Tryz.prog 34 1 = some 1 := by kernel_rfl
theorem rDo_ok (M : Mem) (c : CellV) (o : OpV) (hc0 : CellV.ok M c) : Esp.Fn Tryz.prog 72 [c.enc, o.enc] M (fun M' v => DoE M' v (doC c.pl o)) := by
  obtain ⟨Zbg, Zdv, Zdx, ⟨Zbi, Zbh, Zu⟩⟩ := c
  obtain ⟨Zcj, Zfl, Zee, Zdz, Zgj⟩ := o
  have Zbs : SlK M MarkV.segs 6 ⟨Zbi, Zbh, Zu⟩ := hc0.h0
  have s_c_marks : SlM M Zbi (Zu.map MarkV.segs) 6 := Zbs.h1
  have n_c_marks : (Zu.map MarkV.segs).length = Zu.length := List.length_map ..
  have m_c_marks : Zu.length ≤ 9223372036854775807 := Zbs.h2
  have c_c_marks : Zu.length ≤ Zbh := Zbs.h3
  show Esp.Fn _ _ _ _ (fun M' v => DoE M' v (doC (CellV.pl ⟨Zbg, Zdv, Zdx, ⟨Zbi, Zbh, Zu⟩⟩) ⟨Zcj, Zfl, Zee, Zdz, Zgj⟩))
  refine Zek Tryz.func72 rfl Tryz.ntmps72 rfl ?_; intro H
  refine Zj ?_; refine Za (l := [0, 1, 2, 3, 4, 5]) rfl ?_
  refine Zcz ?_; intro b1
  refine Zcz ?_; intro b2
  refine Zby F.zero37 ?_; intro b3
  refine Zby F.zero34 ?_; intro b4
  iterate 2 refine Zd ?_
  refine Ze ?_; refine Zc ?_; refine Y_pk [7, 6, 5, 4, 3, 2] ?_
  iterate 2 refine Zj ?_
  refine Za (l := [0, 1, 2, 3, 4, 5, 6, 7]) rfl ?_; refine Zi F.lay37 ?_; refine X_fs rfl rfl F.ok50 rfl (rCelIs_ok _ ⟨Zbg, Zdv, Zdx, ⟨Zbi, Zbh, Zu⟩⟩ hc0) rfl ?_
  rintro _ rfl
  refine Zel ?_; refine Zf ?_
  refine Zag 17 rfl (fun hc5 => ?_) (fun hc5 => ?_)
  ·replace hc5 := nT hc5
   iterate 3 refine Zz ?_
   refine Zl ?_; refine Ze ?_; refine Zc ?_; refine Y_pk [21, 7, 6, 5, 4, 3, 2] ?_; refine Zcy rfl ?_; refine Zj ?_; refine Za (l := [0, 1, 2, 3, 4, 5]) rfl ?_; refine Zbv rfl rfl F.bld37 (.nil) rfl rfl ?_; refine Zbv rfl rfl F.bld34 (.nil) rfl rfl ?_; refine Zas F.lay37 ?_; refine Zas F.lay34 ?_
   iterate 2 refine Zd ?_
   refine Ze ?_; refine Zc ?_; refine Y_pk [7, 6, 5, 4, 3, 2] ?_; refine Zak ?_; refine Zba ?_
   refine Zaj (.inr rfl) (.cell rfl (by repeat first | exact List.Mem.head _ | refine List.Mem.tail _ ?_ | refine List.mem_append_right _ ?_) F.lay37 rfl rfl (.cell rfl (by repeat first | exact List.Mem.head _ | refine List.Mem.tail _ ?_ | refine List.mem_append_right _ ?_) F.lay34 rfl rfl (.tmp rfl (.tmp rfl .nil)))) (fun w hw => ?_)
   refine ⟨_, M, rfl, Mem.le.refl M, hw.c, ?_⟩
   rw [show doC (CellV.pl ⟨Zbg, Zdv, Zdx, ⟨Zbi, Zbh, Zu⟩⟩) ⟨Zcj, Zfl, Zee, Zdz, Zgj⟩ = (Cel.zero, AnswerV.zero, false, 1) from doC_no (by rintro ⟨g1, g2⟩; contradiction)]
   exact ⟨CellV.zero, rfl, rfl, CellV.zero_ok M⟩
  ·replace hc5 := nF hc5
   refine Zi F.lay31 ?_; refine X_fs rfl rfl F.ok66 rfl (rIsOp_ok _ ⟨Zcj, Zfl, Zee, Zdz, Zgj⟩) rfl ?_
   rintro _ rfl
   refine Zel ?_; refine Zl ?_; refine Ze ?_; refine Zc ?_; refine Y_pk [21, 7, 6, 5, 4, 3, 2] ?_
   refine Zau rfl (fun hc6 => ?_) (fun hc6 => ?_)
   ·replace hc6 := nT hc6
    refine Zj ?_; refine Za (l := [0, 1, 2, 3, 4, 5]) rfl ?_; refine Zbv rfl rfl F.bld37 (.nil) rfl rfl ?_; refine Zbv rfl rfl F.bld34 (.nil) rfl rfl ?_; refine Zas F.lay37 ?_; refine Zas F.lay34 ?_
    iterate 2 refine Zd ?_
    refine Ze ?_; refine Zc ?_; refine Y_pk [7, 6, 5, 4, 3, 2] ?_; refine Zak ?_; refine Zba ?_
    refine Zaj (.inr rfl) (.cell rfl (by repeat first | exact List.Mem.head _ | refine List.Mem.tail _ ?_ | refine List.mem_append_right _ ?_) F.lay37 rfl rfl (.cell rfl (by repeat first | exact List.Mem.head _ | refine List.Mem.tail _ ?_ | refine List.mem_append_right _ ?_) F.lay34 rfl rfl (.tmp rfl (.tmp rfl .nil)))) (fun w hw => ?_)
    refine ⟨_, M, rfl, Mem.le.refl M, hw.c, ?_⟩
    rw [show doC (CellV.pl ⟨Zbg, Zdv, Zdx, ⟨Zbi, Zbh, Zu⟩⟩) ⟨Zcj, Zfl, Zee, Zdz, Zgj⟩ = (Cel.zero, AnswerV.zero, false, 1) from doC_no (by rintro ⟨g1, g2⟩; contradiction)]
    exact ⟨CellV.zero, rfl, rfl, CellV.zero_ok M⟩
   ·replace hc6 := nF hc6
    refine Zax ?_; refine Zc ?_; refine Y_pk [7, 6, 5, 4, 3, 2] ?_; refine Zj ?_
    have hcc : IsCel (CellV.pl ⟨Zbg, Zdv, Zdx, ⟨Zbi, Zbh, Zu⟩⟩) := by assumption
    have hoo : IsOp ⟨Zcj, Zfl, Zee, Zdz, Zgj⟩ := by assumption
    have hcm : MarksOk Zu := hcc.2
    have hcl := marks_len hcm
    have hoc : 0 ≤ Zcj ∧ Zcj ≤ 63 := hoo.1
    refine Za (l := [0, 1, 2, 3, 4, 5, 6, 7, 8]) rfl ?_; refine Zb F.foff37_0 ?_; refine Zi F.lay22 ?_; refine Zb F.foff37_1 ?_; refine Zi F.lay4 ?_; refine Zb F.foff37_2 ?_; refine Zi F.lay9 ?_; refine Zbv rfl rfl F.bld34 (.cons rfl (by constructor) (.cons rfl (by constructor) (.cons rfl (by constructor) .nil))) rfl rfl ?_
    refine Zby F.zero34 ?_; intro b7
    refine Zas F.lay34 ?_; refine Ze ?_; refine Zc ?_; refine Y_pk [8, 7, 6, 5, 4, 3, 2] ?_
    iterate 2 refine Zj ?_
    refine Za (l := [0, 1, 2]) rfl ?_; refine Zb F.foff31_2 ?_; refine Zi F.lay3 ?_; refine Zav ?_; refine Ze ?_; refine Zc ?_; refine Y_pk [33, 8, 7, 6, 5, 4, 3, 2] ?_
    refine Zau rfl (fun hc8 => ?_) (fun hc8 => ?_)
    ·replace hc8 := dT hc8
     refine Zj ?_; refine Zdt (l := [0, 1, 2, 3, 4, 5]) (Hin := [(b3, _)]) (Hin2 := [(b4, _)]) [2, 3] #[0, 0, 1, 7, 15, 31] (by repeat first | exact Rem.here _ | exact Rem.two | apply Rem.skip | apply Rem.over) (by repeat first | exact Rem.here _ | exact Rem.two | apply Rem.skip | apply Rem.over) rfl (by kernel_rfl) (by kernel_rfl) ?_; refine Zi F.lay37 ?_; refine Zi F.lay34 ?_; refine Zdd rfl rfl rfl rfl rfl (by constructor) (by ((try simp only [cat, List.cons_append, List.nil_append, List.append_nil]); (repeat (first | exact Zbp | refine Zcb ?_ | (refine Zam ?_ ?_; rfl))); done)) (by repeat first | exact Upd.head | apply Upd.tail | apply Upd.over) F.lay37 rfl rfl (fun _ h => h.c) ?_; refine Zdd rfl rfl rfl rfl rfl (by constructor) (by ((try simp only [cat, List.cons_append, List.nil_append, List.append_nil]); (repeat (first | exact Zbp | refine Zcb ?_ | (refine Zam ?_ ?_; rfl))); done)) (by repeat first | exact Upd.head | apply Upd.tail | apply Upd.over) F.lay34 rfl rfl (fun _ h => h.c) ?_
     iterate 2 refine Zd ?_
     refine Ze ?_; refine Zen ?_; refine Zc ?_; refine Y_pk [7, 6, 8, 5, 4, 3, 2] ?_; refine Zak ?_; refine Zba ?_
     refine Zaj (.inr rfl) (.cell rfl (by repeat first | exact List.Mem.head _ | refine List.Mem.tail _ ?_ | refine List.mem_append_right _ ?_) F.lay37 rfl rfl (.cell rfl (by repeat first | exact List.Mem.head _ | refine List.Mem.tail _ ?_ | refine List.mem_append_right _ ?_) F.lay34 rfl rfl (.tmp rfl (.tmp rfl .nil)))) (fun w hw => ?_)
     refine ⟨_, M, rfl, Mem.le.refl M, hw.c, ?_⟩
     rw [doC_get hcc hoo (by assumption)]
     exact ⟨⟨Zbg, Zdv, Zdx, ⟨Zbi, Zbh, Zu⟩⟩, rfl, rfl, hc0⟩
    ·replace hc8 := dF hc8
     refine Zax ?_; refine Zc ?_; refine Y_pk [8, 7, 6, 5, 4, 3, 2] ?_; refine Zj ?_; refine Za (l := [0, 1, 2, 3, 4, 5, 6, 7, 8, 9, 10]) rfl ?_; refine Zb F.foff37_3 ?_; refine Zi F.lay35 ?_; refine Zb F.foff31_0 ?_; refine Zi F.lay3 ?_; refine X_fs rfl rfl F.ok75 rfl (of_ok _ ⟨Zbi, Zbh, Zu⟩ Zcj Zbs) rfl ?_
     rintro _ hv
     obtain ⟨⟨xm, xb⟩, hx⟩ : ∃ r, ofX Zu Zcj = r := ⟨_, rfl⟩
     replace hv : _ = ofXv (ofX Zu Zcj) := hv
     rw [hx] at hv
     subst hv
     obtain ⟨Zdf, Zfy, ⟨m_code, m_version, m_has, m_val⟩⟩ := xm
     refine Zf ?_
     iterate 2 refine Zcf ?_
     refine Zby F.zero92 ?_; intro b9
     refine Zas F.lay92 ?_; refine Zd ?_; refine Ze ?_; refine Zc ?_; refine Y_pk [10, 9, 8, 7, 6, 5, 4, 3, 2] ?_
     iterate 2 refine Zj ?_
     refine C_cutX (α := Bool) (fun b : Bool => [(51, .bool b)]) (fun b : Bool => (b = true → ofM Zu Zcj = some ⟨Zdf, Zfy, ⟨m_code, m_version, m_has, m_val⟩⟩ ∧ Zfy = Zfl) ∧ (b = false → ∀ m, ofM Zu Zcj = some m → xb = true ∧ m = ⟨Zdf, Zfy, ⟨m_code, m_version, m_has, m_val⟩⟩ ∧ ¬ Zfy = Zfl)) (.cons (k := 10) rfl (.cons (k := 9) rfl (.cons (k := 8) rfl (.cons (k := 7) rfl (.cons (k := 6) rfl (.cons (k := 5) rfl (.cons (k := 4) rfl (.cons (k := 3) rfl (.cons (k := 2) rfl .nil))))))))) ?_ ?_
     ·skip
      refine Za (l := [0, 1, 2, 3, 4, 5, 6, 7]) rfl ?_
      iterate 2 refine Zf ?_
      refine Zag 45 rfl (fun hc10 => ?_) (fun hc10 => ?_)
      ·skip
       simp only [AnswerV.eta, MarkV.eta, CellV.eta, HeldV.eta, WaitV.eta, ServerV.eta, PeerV.eta, OpV.eta, ParcelV.eta, PostV.eta, WorkerV.eta] at hc10
       refine Zb F.foff92_1 ?_; refine Zi F.lay22 ?_; refine Zb F.foff31_1 ?_; refine Zi F.lay22 ?_; refine Zav ?_; refine Zl ?_; refine Ze ?_
       exact K_cutX (decide (Zfy = Zfl)) (⟨fun h => ⟨ofX_some (by rw [hx]; simp_all), of_decide_eq_true h⟩, fun h m hm => by have h6 := of_decide_eq_false h; have h8 := ofX_some (l := Zu) (c := Zcj) (x := ⟨Zdf, Zfy, ⟨m_code, m_version, m_has, m_val⟩⟩) (by rw [hx]; simp_all); rw [h8] at hm; cases hm; exact ⟨by assumption, rfl, h6⟩⟩) (.cons (k := 51) rfl (.cons (k := 10) rfl (.cons (k := 9) rfl (.cons (k := 8) rfl (.cons (k := 7) rfl (.cons (k := 6) rfl (.cons (k := 5) rfl (.cons (k := 4) rfl (.cons (k := 3) rfl (.cons (k := 2) rfl .nil)))))))))) (fun w hw => by first | exact hw | exact hw.c)
      ·skip
       simp only [AnswerV.eta, MarkV.eta, CellV.eta, HeldV.eta, WaitV.eta, ServerV.eta, PeerV.eta, OpV.eta, ParcelV.eta, PostV.eta, WorkerV.eta] at hc10
       iterate 5 refine Zz ?_
       refine Zl ?_; refine Ze ?_
       exact K_cutX (false) (⟨fun h => (by cases h), fun _ m hm => by have h8 := ofX_none (l := Zu) (c := Zcj) (x := ⟨Zdf, Zfy, ⟨m_code, m_version, m_has, m_val⟩⟩) (by rw [hx]; simp_all); rw [h8] at hm; cases hm⟩) (.cons (k := 51) rfl (.cons (k := 10) rfl (.cons (k := 9) rfl (.cons (k := 8) rfl (.cons (k := 7) rfl (.cons (k := 6) rfl (.cons (k := 5) rfl (.cons (k := 4) rfl (.cons (k := 3) rfl (.cons (k := 2) rfl .nil)))))))))) (fun w hw => by first | exact hw | exact hw.c)
     ·rintro b7 ⟨hb1, hb2⟩
      refine Zau rfl (fun hc11 => ?_) (fun hc11 => ?_)
      ·skip
       refine Zj ?_
       obtain ⟨hmm9, hrq9⟩ := hb1 (by assumption)
       refine Zdt (l := [0, 1, 2, 3, 4, 5, 6]) (Hin := [(b3, _)]) (Hin2 := [(b4, _)]) [3, 4] #[0, 0, 2, 1, 15, 31, 63] (by repeat first | exact Rem.here _ | exact Rem.two | apply Rem.skip | apply Rem.over) (by repeat first | exact Rem.here _ | exact Rem.two | apply Rem.skip | apply Rem.over) rfl (by kernel_rfl) (by kernel_rfl) ?_; refine Zi F.lay37 ?_; refine Zb F.foff92_2 ?_; refine Zi F.lay34 ?_; refine Zdd rfl rfl rfl rfl rfl (by constructor) (by ((try simp only [cat, List.cons_append, List.nil_append, List.append_nil]); (repeat (first | exact Zbp | refine Zcb ?_ | (refine Zam ?_ ?_; rfl))); done)) (by repeat first | exact Upd.head | apply Upd.tail | apply Upd.over) F.lay37 rfl rfl (fun _ h => h.c) ?_; refine Zdd rfl rfl rfl rfl rfl (by constructor) (by ((try simp only [cat, List.cons_append, List.nil_append, List.append_nil]); (repeat (first | exact Zbp | refine Zcb ?_ | (refine Zam ?_ ?_; rfl))); done)) (by repeat first | exact Upd.head | apply Upd.tail | apply Upd.over) F.lay34 rfl rfl (fun _ h => h.c) ?_
       iterate 2 refine Zd ?_
       refine Ze ?_; refine Zen ?_; refine Zc ?_; refine Y_pk [7, 6, 10, 9, 8, 5, 4, 3, 2] ?_; refine Zak ?_; refine Zba ?_
       refine Zaj (.inr rfl) (.cell rfl (by repeat first | exact List.Mem.head _ | refine List.Mem.tail _ ?_ | refine List.mem_append_right _ ?_) F.lay37 rfl rfl (.cell rfl (by repeat first | exact List.Mem.head _ | refine List.Mem.tail _ ?_ | refine List.mem_append_right _ ?_) F.lay34 rfl rfl (.tmp rfl (.tmp rfl .nil)))) (fun w hw => ?_)
       refine ⟨_, M, rfl, Mem.le.refl M, hw.c, ?_⟩
       rw [doC_is hcc hoo (by assumption) hmm9, if_pos (by show Zfy = Zfl; exact hrq9)]
       exact ⟨⟨Zbg, Zdv, Zdx, ⟨Zbi, Zbh, Zu⟩⟩, rfl, rfl, hc0⟩
      ·skip
       refine Zax ?_; refine Zc ?_; refine Y_pk [10, 9, 8, 7, 6, 5, 4, 3, 2] ?_
       iterate 2 refine Zj ?_
       refine C_cutX (α := Bool) (fun b : Bool => [(62, .bool b)]) (fun b : Bool => (b = true → ofM Zu Zcj = some ⟨Zdf, Zfy, ⟨m_code, m_version, m_has, m_val⟩⟩ ∧ Zfl < Zfy) ∧ (b = false → doC (CellV.pl ⟨Zbg, Zdv, Zdx, ⟨Zbi, Zbh, Zu⟩⟩) ⟨Zcj, Zfl, Zee, Zdz, Zgj⟩ = goesC (CellV.pl ⟨Zbg, Zdv, Zdx, ⟨Zbi, Zbh, Zu⟩⟩) ⟨Zcj, Zfl, Zee, Zdz, Zgj⟩)) (.cons (k := 8) rfl (.cons (k := 7) rfl (.cons (k := 6) rfl (.cons (k := 5) rfl (.cons (k := 4) rfl (.cons (k := 3) rfl (.cons (k := 2) rfl .nil))))))) ?_ ?_
       ·skip
        have hb3 := hb2 (by assumption)
        refine Za (l := [0, 1, 2, 3, 4, 5, 6, 7]) rfl ?_
        iterate 2 refine Zf ?_
        refine Zag 56 rfl (fun hc12 => ?_) (fun hc12 => ?_)
        ·skip
         simp only [AnswerV.eta, MarkV.eta, CellV.eta, HeldV.eta, WaitV.eta, ServerV.eta, PeerV.eta, OpV.eta, ParcelV.eta, PostV.eta, WorkerV.eta] at hc12
         refine Zb F.foff92_1 ?_; refine Zi F.lay22 ?_; refine Zb F.foff31_1 ?_; refine Zi F.lay22 ?_; refine Zav ?_; refine Zl ?_; refine Ze ?_
         exact K_cutX (decide (Zfl < Zfy)) (⟨fun h => ⟨ofX_some (by rw [hx]; simp_all), of_decide_eq_true h⟩, fun h => doC_goes hcc hoo (by assumption) (fun m hm => by have h6 := of_decide_eq_false h; obtain ⟨h1, h2, h3⟩ := hb3 m hm; subst h2; show Zfy < Zfl; omega)⟩) (.cons (k := 62) rfl (.cons (k := 8) rfl (.cons (k := 7) rfl (.cons (k := 6) rfl (.cons (k := 5) rfl (.cons (k := 4) rfl (.cons (k := 3) rfl (.cons (k := 2) rfl .nil)))))))) (fun w hw => by first | exact hw | exact hw.c)
        ·skip
         simp only [AnswerV.eta, MarkV.eta, CellV.eta, HeldV.eta, WaitV.eta, ServerV.eta, PeerV.eta, OpV.eta, ParcelV.eta, PostV.eta, WorkerV.eta] at hc12
         iterate 5 refine Zz ?_
         refine Zl ?_; refine Ze ?_
         exact K_cutX (false) (⟨fun h => (by cases h), fun _ => doC_goes hcc hoo (by assumption) (fun m hm => by obtain ⟨h1, h2, h3⟩ := hb3 m hm; simp_all)⟩) (.cons (k := 62) rfl (.cons (k := 8) rfl (.cons (k := 7) rfl (.cons (k := 6) rfl (.cons (k := 5) rfl (.cons (k := 4) rfl (.cons (k := 3) rfl (.cons (k := 2) rfl .nil)))))))) (fun w hw => by first | exact hw | exact hw.c)
       ·rintro b9 ⟨hb4, hb5⟩
        refine Zau rfl (fun hc13 => ?_) (fun hc13 => ?_)
        ·skip
         refine Zj ?_
         obtain ⟨hmm9, hrq9⟩ := hb4 (by assumption)
         refine Za (l := [0, 1, 2, 3, 4, 5]) rfl ?_; refine Zi F.lay37 ?_; refine Zbv rfl rfl F.bld34 (.cons rfl (by constructor) .nil) rfl rfl ?_; refine Zas F.lay37 ?_; refine Zas F.lay34 ?_
         iterate 2 refine Zd ?_
         refine Ze ?_; refine Zc ?_; refine Y_pk [7, 6, 8, 5, 4, 3, 2] ?_; refine Zak ?_; refine Zba ?_
         refine Zaj (.inr rfl) (.cell rfl (by repeat first | exact List.Mem.head _ | refine List.Mem.tail _ ?_ | refine List.mem_append_right _ ?_) F.lay37 rfl rfl (.cell rfl (by repeat first | exact List.Mem.head _ | refine List.Mem.tail _ ?_ | refine List.mem_append_right _ ?_) F.lay34 rfl rfl (.tmp rfl (.tmp rfl .nil)))) (fun w hw => ?_)
         refine ⟨_, M, rfl, Mem.le.refl M, hw.c, ?_⟩
         rw [doC_is hcc hoo (by assumption) hmm9, if_neg (by show ¬ Zfy = Zfl; omega), if_pos (by show Zfl < Zfy; exact hrq9)]
         exact ⟨⟨Zbg, Zdv, Zdx, ⟨Zbi, Zbh, Zu⟩⟩, rfl, rfl, hc0⟩
        ·skip
         refine Zax ?_; refine Zc ?_; refine Y_pk [8, 7, 6, 5, 4, 3, 2] ?_
         iterate 2 refine Zj ?_
         have hgo := hb5 (by assumption)
         refine Za (l := [0, 1, 2, 3, 4, 5, 6, 7, 8, 9]) rfl ?_; refine Zb F.foff31_2 ?_; refine Zi F.lay3 ?_; refine Zav ?_; refine Zf ?_
         refine Zag 68 rfl (fun hc14 => ?_) (fun hc14 => ?_)
         ·replace hc14 := nT hc14
          refine Zb F.foff31_3 ?_; refine Zi F.lay22 ?_; refine Zb F.foff37_0 ?_; refine Zi F.lay22 ?_; refine Zav ?_; refine Zl ?_; refine Ze ?_; refine Zc ?_; refine Y_pk [74, 8, 7, 6, 5, 4, 3, 2] ?_
          refine Zau rfl (fun hc15 => ?_) (fun hc15 => ?_)
          ·replace hc15 := nT hc15
           refine Zj ?_; refine Za (l := [0, 1, 2, 3, 4, 5]) rfl ?_; refine Zb F.foff37_0 ?_; refine Zi F.lay22 ?_; refine Zb F.foff37_1 ?_; refine Zi F.lay4 ?_; refine Zbv rfl rfl F.bld34 (.cons rfl (by constructor) (.cons rfl (by constructor) (.cons rfl (by constructor) .nil))) rfl rfl ?_; refine Zas F.lay34 ?_; refine Ze ?_; refine Zc ?_; refine Y_pk [8, 7, 6, 5, 4, 3, 2] ?_; refine Zj ?_; refine Zar (l := [0, 1, 2, 3, 4, 5, 6, 7, 8, 9, 10, 11, 12, 13, 14, 15, 16, 17]) #[0, 1, 0, 4, 0, 16, 0, 64, 0, 256, 0, 1024, 0, 7936, 16320, 32767, 0, 131071] _ rfl (by kernel_rfl) (by kernel_rfl) St.drawn (fun _ h => h) ?_; refine Zb F.foff37_0 ?_; refine Zi F.lay22 ?_; refine Zb F.foff37_1 ?_; refine Zi F.lay4 ?_; refine Zb F.foff37_2 ?_; refine Zi F.lay9 ?_; refine Zb F.foff37_3 ?_; refine Zi F.lay35 ?_
           refine Zb F.foff31_0 ?_; refine Zi F.lay3 ?_; refine Zb F.foff31_1 ?_; refine Zi F.lay22 ?_; refine Zi F.lay34 ?_; refine Zbv rfl rfl F.bld92 (.cons rfl (by constructor) (.cons rfl (by constructor) (.cons rfl (by constructor) .nil))) rfl rfl ?_; refine X_fn rfl rfl F.ok76 rfl (mark_ok _ ⟨Zbi, Zbh, Zu⟩ (⟨Zcj, Zfl, ⟨8, Zbg, Zdv, ⟨#[]⟩⟩⟩ : MarkV) Zbs hcm (by refine ⟨hoc, ?_⟩; unfold AnsOk; exact ⟨rfl, by first | exact .inl rfl | exact .inr rfl⟩)) rfl ?_
           rintro _ M1 hm1 ⟨⟨q_a, q_c, q_l⟩, rfl, hql, k_q⟩
           simp only at hql
           refine Zbv rfl rfl F.bld37 (.cons rfl (by constructor) (.cons rfl (by constructor) (.cons rfl (by constructor) (.cons rfl (by constructor) .nil)))) rfl rfl ?_
           refine Zby F.zero37 ?_; intro b16
           refine Zas F.lay37 ?_; refine Ze ?_; refine Zc ?_; refine Y_pk [11, 8, 7, 6, 5, 4, 3, 2] ?_; refine Zj ?_; refine Zdt (l := [0, 1, 2, 3, 4, 5]) (Hin := [(b3, _)]) (Hin2 := [(b4, _)]) [2, 3] #[0, 0, 1, 7, 15, 31] (by repeat first | exact Rem.here _ | exact Rem.two | apply Rem.skip | apply Rem.over) (by repeat first | exact Rem.here _ | exact Rem.two | apply Rem.skip | apply Rem.over) rfl (by kernel_rfl) (by kernel_rfl) ?_; refine Zi F.lay37 ?_; refine Zi F.lay34 ?_; refine Zdd rfl rfl rfl rfl rfl (by constructor) (by ((try simp only [cat, List.cons_append, List.nil_append, List.append_nil]); (repeat (first | exact Zbp | refine Zcb ?_ | (refine Zam ?_ ?_; rfl))); done)) (by repeat first | exact Upd.head | apply Upd.tail | apply Upd.over) F.lay37 rfl rfl (fun _ h => h.c) ?_; refine Zdd rfl rfl rfl rfl rfl (by constructor) (by ((try simp only [cat, List.cons_append, List.nil_append, List.append_nil]); (repeat (first | exact Zbp | refine Zcb ?_ | (refine Zam ?_ ?_; rfl))); done)) (by repeat first | exact Upd.head | apply Upd.tail | apply Upd.over) F.lay34 rfl rfl (fun _ h => h.c) ?_
           iterate 2 refine Zd ?_
           refine Ze ?_; refine Zen ?_; refine Zc ?_; refine Y_pk [7, 6, 5, 4, 3, 2] ?_; refine Zak ?_; refine Zba ?_
           refine Zaj (.inr rfl) (.cell rfl (by repeat first | exact List.Mem.head _ | refine List.Mem.tail _ ?_ | refine List.mem_append_right _ ?_) F.lay37 rfl rfl (.cell rfl (by repeat first | exact List.Mem.head _ | refine List.Mem.tail _ ?_ | refine List.mem_append_right _ ?_) F.lay34 rfl rfl (.tmp rfl (.tmp rfl .nil)))) (fun w hw => ?_)
           refine ⟨_, M1, rfl, hm1, hw.c, ?_⟩
           rw [hgo, goesC_no ⟨by assumption, by assumption⟩]
           exact ⟨⟨Zbg, Zdv, Zdx, ⟨q_a, q_c, q_l⟩⟩, rfl, by show Cel.mk _ _ _ q_l = _; rw [hql]; rfl, ⟨k_q⟩⟩
          ·replace hc15 := nF hc15
           refine Zax ?_; refine Zc ?_; refine Y_pk [7, 6, 5, 4, 3, 2] ?_; refine Zj ?_; refine Za (l := [0, 1, 2, 3, 4, 5, 6, 7, 8]) rfl ?_; refine Zb F.foff37_0 ?_; refine Zi F.lay22 ?_; refine Zcc rfl rfl rfl rfl rfl (by exact wrap_u64 _) rfl ?_
           obtain ⟨v9, hv9⟩ : ∃ v, w64 (Zbg + 1) = v := ⟨_, rfl⟩
           refine Zgq 100 rfl (show _ = Value.int .u64 v9 from congrArg (Value.int .u64) hv9) ?_; refine Zb F.foff31_2 ?_; refine Zi F.lay3 ?_; refine Zav ?_
           obtain ⟨b9, hb9⟩ : ∃ b, (!decide (Zee = 4)) = b := ⟨_, rfl⟩
           refine Zgq 103 rfl (show _ = Value.bool b9 from congrArg Value.bool hb9) ?_; refine Zbv rfl rfl F.bld34 (.cons rfl (by constructor) (.cons rfl (by constructor) .nil)) rfl rfl ?_
           refine Zby F.zero34 ?_; intro b17
           refine Zas F.lay34 ?_; refine Ze ?_; refine Zc ?_; refine Y_pk [12, 7, 6, 5, 4, 3, 2] ?_; refine Zj ?_; refine Zar (l := [0, 1, 2, 3, 4, 5, 6, 7, 8, 9, 10, 11, 12, 13, 14, 15, 16, 17]) #[0, 1, 0, 4, 0, 16, 0, 64, 0, 256, 0, 1024, 0, 7936, 16320, 32767, 0, 131071] _ rfl (by kernel_rfl) (by kernel_rfl) St.drawn (fun _ h => h) ?_; refine Zb F.foff34_1 ?_; refine Zi F.lay22 ?_; refine Zb F.foff34_2 ?_; refine Zi F.lay4 ?_; refine Zb F.foff31_4 ?_; refine Zi F.lay9 ?_; refine Zb F.foff37_3 ?_; refine Zi F.lay35 ?_; refine Zb F.foff31_0 ?_; refine Zi F.lay3 ?_; refine Zb F.foff31_1 ?_; refine Zi F.lay22 ?_; refine Zi F.lay34 ?_; refine Zbv rfl rfl F.bld92 (.cons rfl (by constructor) (.cons rfl (by constructor) (.cons rfl (by constructor) .nil))) rfl rfl ?_; refine X_fn rfl rfl F.ok76 rfl (mark_ok _ ⟨Zbi, Zbh, Zu⟩ (⟨Zcj, Zfl, ⟨0, v9, b9, ⟨#[]⟩⟩⟩ : MarkV) Zbs hcm (by refine ⟨hoc, ?_⟩; unfold AnsOk; exact ⟨rfl, by first | exact .inl rfl | exact .inr rfl⟩)) rfl ?_
           rintro _ M1 hm1 ⟨⟨q_a, q_c, q_l⟩, rfl, hql, k_q⟩
           simp only at hql
           refine Zbv rfl rfl F.bld37 (.cons rfl (by constructor) (.cons rfl (by constructor) (.cons rfl (by constructor) (.cons rfl (by constructor) .nil)))) rfl rfl ?_
           refine Zby F.zero37 ?_; intro b18
           refine Zas F.lay37 ?_; refine Ze ?_; refine Zc ?_; refine Y_pk [13, 12, 7, 6, 5, 4] ?_; refine Zj ?_; refine Zdt (l := [0, 1, 2, 3, 4, 5]) (Hin := [(b3, _)]) (Hin2 := [(b4, _)]) [2, 3] #[0, 0, 1, 7, 15, 31] (by repeat first | exact Rem.here _ | exact Rem.two | apply Rem.skip | apply Rem.over) (by repeat first | exact Rem.here _ | exact Rem.two | apply Rem.skip | apply Rem.over) rfl (by kernel_rfl) (by kernel_rfl) ?_; refine Zi F.lay37 ?_; refine Zi F.lay34 ?_; refine Zdd rfl rfl rfl rfl rfl (by constructor) (by ((try simp only [cat, List.cons_append, List.nil_append, List.append_nil]); (repeat (first | exact Zbp | refine Zcb ?_ | (refine Zam ?_ ?_; rfl))); done)) (by repeat first | exact Upd.head | apply Upd.tail | apply Upd.over) F.lay37 rfl rfl (fun _ h => h.c) ?_; refine Zdd rfl rfl rfl rfl rfl (by constructor) (by ((try simp only [cat, List.cons_append, List.nil_append, List.append_nil]); (repeat (first | exact Zbp | refine Zcb ?_ | (refine Zam ?_ ?_; rfl))); done)) (by repeat first | exact Upd.head | apply Upd.tail | apply Upd.over) F.lay34 rfl rfl (fun _ h => h.c) ?_
           iterate 2 refine Zd ?_
           refine Ze ?_; refine Zen ?_; refine Zc ?_; refine Y_pk [7, 6, 5, 4] ?_; refine Zak ?_
           refine Zaj (.inr rfl) (.cell rfl (by repeat first | exact List.Mem.head _ | refine List.Mem.tail _ ?_ | refine List.mem_append_right _ ?_) F.lay37 rfl rfl (.cell rfl (by repeat first | exact List.Mem.head _ | refine List.Mem.tail _ ?_ | refine List.mem_append_right _ ?_) F.lay34 rfl rfl (.tmp rfl (.tmp rfl .nil)))) (fun w hw => ?_)
           refine ⟨_, M1, rfl, hm1, hw.c, ?_⟩
           rw [hgo, goesC_yes (by rintro ⟨g1, g2⟩; replace g1 : Zee ≠ 2 := g1; replace g2 : Zdz ≠ Zbg := g2; first | omega | contradiction)]
           show DoE _ _ (Cel.mk (w64 (Zbg + 1)) (!decide (Zee = 4)) Zgj (markC _ _ ⟨0, w64 (Zbg + 1), !decide (Zee = 4), ⟨#[]⟩⟩), ⟨0, w64 (Zbg + 1), !decide (Zee = 4), ⟨#[]⟩⟩, true, 0)
           rw [hv9, hb9]
           exact ⟨⟨v9, b9, Zgj, ⟨q_a, q_c, q_l⟩⟩, rfl, by show Cel.mk _ _ _ q_l = _; rw [hql]; rfl, ⟨k_q⟩⟩
         ·replace hc14 := nF hc14
          iterate 5 refine Zz ?_
          refine Zl ?_; refine Ze ?_; refine Zc ?_; refine Y_pk [74, 8, 7, 6, 5, 4, 3, 2] ?_; refine Zeu rfl ?_; refine Zax ?_; refine Zc ?_; refine Y_pk [7, 6, 5, 4, 3, 2] ?_; refine Zj ?_; refine Za (l := [0, 1, 2, 3, 4, 5, 6, 7, 8]) rfl ?_; refine Zb F.foff37_0 ?_; refine Zi F.lay22 ?_; refine Zcc rfl rfl rfl rfl rfl (by exact wrap_u64 _) rfl ?_
          obtain ⟨v9, hv9⟩ : ∃ v, w64 (Zbg + 1) = v := ⟨_, rfl⟩
          refine Zgq 100 rfl (show _ = Value.int .u64 v9 from congrArg (Value.int .u64) hv9) ?_; refine Zb F.foff31_2 ?_; refine Zi F.lay3 ?_; refine Zav ?_
          obtain ⟨b9, hb9⟩ : ∃ b, (!decide (Zee = 4)) = b := ⟨_, rfl⟩
          refine Zgq 103 rfl (show _ = Value.bool b9 from congrArg Value.bool hb9) ?_; refine Zbv rfl rfl F.bld34 (.cons rfl (by constructor) (.cons rfl (by constructor) .nil)) rfl rfl ?_
          refine Zby F.zero34 ?_; intro b19
          refine Zas F.lay34 ?_; refine Ze ?_; refine Zc ?_; refine Y_pk [12, 7, 6, 5, 4, 3, 2] ?_; refine Zj ?_; refine Zar (l := [0, 1, 2, 3, 4, 5, 6, 7, 8, 9, 10, 11, 12, 13, 14, 15, 16, 17]) #[0, 1, 0, 4, 0, 16, 0, 64, 0, 256, 0, 1024, 0, 7936, 16320, 32767, 0, 131071] _ rfl (by kernel_rfl) (by kernel_rfl) St.drawn (fun _ h => h) ?_; refine Zb F.foff34_1 ?_; refine Zi F.lay22 ?_; refine Zb F.foff34_2 ?_; refine Zi F.lay4 ?_; refine Zb F.foff31_4 ?_; refine Zi F.lay9 ?_; refine Zb F.foff37_3 ?_; refine Zi F.lay35 ?_; refine Zb F.foff31_0 ?_; refine Zi F.lay3 ?_; refine Zb F.foff31_1 ?_; refine Zi F.lay22 ?_; refine Zi F.lay34 ?_; refine Zbv rfl rfl F.bld92 (.cons rfl (by constructor) (.cons rfl (by constructor) (.cons rfl (by constructor) .nil))) rfl rfl ?_; refine X_fn rfl rfl F.ok76 rfl (mark_ok _ ⟨Zbi, Zbh, Zu⟩ (⟨Zcj, Zfl, ⟨0, v9, b9, ⟨#[]⟩⟩⟩ : MarkV) Zbs hcm (by refine ⟨hoc, ?_⟩; unfold AnsOk; exact ⟨rfl, by first | exact .inl rfl | exact .inr rfl⟩)) rfl ?_
          rintro _ M1 hm1 ⟨⟨q_a, q_c, q_l⟩, rfl, hql, k_q⟩
          simp only at hql
          refine Zbv rfl rfl F.bld37 (.cons rfl (by constructor) (.cons rfl (by constructor) (.cons rfl (by constructor) (.cons rfl (by constructor) .nil)))) rfl rfl ?_
          refine Zby F.zero37 ?_; intro b20
          refine Zas F.lay37 ?_; refine Ze ?_; refine Zc ?_; refine Y_pk [13, 12, 7, 6, 5, 4] ?_; refine Zj ?_; refine Zdt (l := [0, 1, 2, 3, 4, 5]) (Hin := [(b3, _)]) (Hin2 := [(b4, _)]) [2, 3] #[0, 0, 1, 7, 15, 31] (by repeat first | exact Rem.here _ | exact Rem.two | apply Rem.skip | apply Rem.over) (by repeat first | exact Rem.here _ | exact Rem.two | apply Rem.skip | apply Rem.over) rfl (by kernel_rfl) (by kernel_rfl) ?_; refine Zi F.lay37 ?_; refine Zi F.lay34 ?_; refine Zdd rfl rfl rfl rfl rfl (by constructor) (by ((try simp only [cat, List.cons_append, List.nil_append, List.append_nil]); (repeat (first | exact Zbp | refine Zcb ?_ | (refine Zam ?_ ?_; rfl))); done)) (by repeat first | exact Upd.head | apply Upd.tail | apply Upd.over) F.lay37 rfl rfl (fun _ h => h.c) ?_; refine Zdd rfl rfl rfl rfl rfl (by constructor) (by ((try simp only [cat, List.cons_append, List.nil_append, List.append_nil]); (repeat (first | exact Zbp | refine Zcb ?_ | (refine Zam ?_ ?_; rfl))); done)) (by repeat first | exact Upd.head | apply Upd.tail | apply Upd.over) F.lay34 rfl rfl (fun _ h => h.c) ?_
          iterate 2 refine Zd ?_
          refine Ze ?_; refine Zen ?_; refine Zc ?_; refine Y_pk [7, 6, 5, 4] ?_; refine Zak ?_
          refine Zaj (.inr rfl) (.cell rfl (by repeat first | exact List.Mem.head _ | refine List.Mem.tail _ ?_ | refine List.mem_append_right _ ?_) F.lay37 rfl rfl (.cell rfl (by repeat first | exact List.Mem.head _ | refine List.Mem.tail _ ?_ | refine List.mem_append_right _ ?_) F.lay34 rfl rfl (.tmp rfl (.tmp rfl .nil)))) (fun w hw => ?_)
          refine ⟨_, M1, rfl, hm1, hw.c, ?_⟩
          rw [hgo, goesC_yes (by rintro ⟨g1, g2⟩; replace g1 : Zee ≠ 2 := g1; replace g2 : Zdz ≠ Zbg := g2; first | omega | contradiction)]
          show DoE _ _ (Cel.mk (w64 (Zbg + 1)) (!decide (Zee = 4)) Zgj (markC _ _ ⟨0, w64 (Zbg + 1), !decide (Zee = 4), ⟨#[]⟩⟩), ⟨0, w64 (Zbg + 1), !decide (Zee = 4), ⟨#[]⟩⟩, true, 0)
          rw [hv9, hb9]
          exact ⟨⟨v9, b9, Zgj, ⟨q_a, q_c, q_l⟩⟩, rfl, by show Cel.mk _ _ _ q_l = _; rw [hql]; rfl, ⟨k_q⟩⟩
end Go.Proofs.YtpkeilhilpogiaaGreat
namespace Go.Esp
structure Pst where
  to : Int
  parcel : Prc
  deriving DecidableEq
def PostV.pl (p : PostV) : Pst := ⟨p.to, p.parcel.pl⟩
def pstl (l : List PostV) : List Pst := l.map PostV.pl
theorem pstl_len (l : List PostV) : (pstl l).length = l.length := List.length_map ..
structure Wt where
  key : Plc
  client : Int
  req : Int
  answer : AnswerV
  serial : Int
  need : List Int
  deriving DecidableEq
def WaitV.pl (w : WaitV) : Wt := ⟨w.key, w.client, w.req, w.answer, w.serial, w.need.l⟩
def wtl (l : List WaitV) : List Wt := l.map WaitV.pl
theorem Zcs (l : List WaitV) : (wtl l).length = l.length := List.length_map ..
theorem Zgi {l : List WaitV} {k : Nat} (hk : k < l.length) : (wtl l)[k]'(by rw [Zcs]; exact hk) = WaitV.pl l[k] := by unfold wtl; rw [List.getElem_map]
structure Srv where
  addr : Int
  epoch : Int
  store : List Hd
  waits : List Wt
  serial : Int
  deriving DecidableEq
def Srv.zero : Srv := ⟨0, 0, [], [], 0⟩
def ServerV.pl (s : ServerV) : Srv := ⟨s.addr, s.epoch, pls s.store.l, wtl s.waits.l, s.serial⟩
def NeedOk (l : List Int) : Prop := (∀ a ∈ l, 0 ≤ a ∧ a ≤ 999) ∧ l.Pairwise (fun x y => x < y)
instance (l : List Int) : Decidable (NeedOk l) := by unfold NeedOk; exact inferInstance
def WtOk (w : Wt) : Prop := NeedOk w.need ∧ (1 ≤ w.need.length ∧ w.need.length ≤ 8) ∧ (0 ≤ w.client ∧ w.client ≤ 63) ∧ w.answer.val = ⟨#[]⟩ ∧ w.answer.code = 0
instance (w : Wt) : Decidable (WtOk w) := by unfold WtOk; exact inferInstance
def WtsOk (l : List Wt) : Prop := (∀ w ∈ l, WtOk w) ∧ l.Pairwise (fun x y => LessP x.key y.key)
instance (l : List Wt) : Decidable (WtsOk l) := by unfold WtsOk; exact inferInstance
def IsSrv (s : Srv) : Prop := WtsOk s.waits ∧ (0 ≤ s.addr ∧ s.addr ≤ 999) ∧ IsSt s.store
instance (s : Srv) : Decidable (IsSrv s) := by unfold IsSrv; exact inferInstance
theorem need_take {l : List Int} {k : Nat} (hk : k < l.length) : NeedOk (l.take (k + 1)) ↔ NeedOk (l.take k) ∧ (0 ≤ l[k] ∧ l[k] ≤ 999) ∧ ∀ h : 0 < k, l[k - 1]'(by omega) < l[k] := by
  have e : l.take (k + 1) = l.take k ++ [l[k]] := by rw [List.take_add_one, List.getElem?_eq_getElem hk]; rfl
  rw [e]
  unfold NeedOk
  simp only [List.mem_append, List.mem_singleton, List.pairwise_append, List.pairwise_singleton]
  constructor
  · rintro ⟨h1, h2, _, h3⟩
    refine ⟨⟨fun m hm => h1 m (.inl hm), h2⟩, h1 _ (.inr rfl), fun h => h3 _ ?_ _ rfl⟩
    rw [List.mem_take_iff_getElem]
    exact ⟨k - 1, by omega, rfl⟩
  · rintro ⟨⟨h1, h2⟩, h3, h4⟩
    refine ⟨fun m hm => ?_, h2, trivial, fun m hm q hq => ?_⟩
    · rcases hm with hm | rfl
      · exact h1 m hm
      · exact h3
    · subst hq
      rw [List.mem_take_iff_getElem] at hm
      obtain ⟨j, hj, rfl⟩ := hm
      have hjk : j < k := by omega
      have hlast := h4 (by omega)
      rcases Nat.lt_or_ge j (k - 1) with h | h
      · have := (List.pairwise_iff_getElem.1 h2) j (k - 1) (by simp; omega) (by simp; omega) h
        simp only [List.getElem_take] at this
        omega
      · have : j = k - 1 := by omega
        subst this; exact hlast
theorem need_pre {l : List Int} (h : NeedOk l) (k : Nat) : NeedOk (l.take k) := ⟨fun m hm => h.1 m (List.mem_of_mem_take hm), h.2.sublist (List.take_sublist k l)⟩
theorem wts_take {s : List Wt} {k : Nat} (hk : k < s.length) : WtsOk (s.take (k + 1)) ↔ WtsOk (s.take k) ∧ WtOk s[k] ∧ ∀ h : 0 < k, LessP (s[k - 1]'(by omega)).key s[k].key := by
  have e : s.take (k + 1) = s.take k ++ [s[k]] := by rw [List.take_add_one, List.getElem?_eq_getElem hk]; rfl
  rw [e]
  unfold WtsOk
  simp only [List.mem_append, List.mem_singleton, List.pairwise_append, List.pairwise_singleton]
  constructor
  · rintro ⟨h1, h2, _, h3⟩
    refine ⟨⟨fun m hm => h1 m (.inl hm), h2⟩, h1 _ (.inr rfl), fun h => h3 _ ?_ _ rfl⟩
    rw [List.mem_take_iff_getElem]
    exact ⟨k - 1, by omega, rfl⟩
  · rintro ⟨⟨h1, h2⟩, h3, h4⟩
    refine ⟨fun m hm => ?_, h2, trivial, fun m hm q hq => ?_⟩
    · rcases hm with hm | rfl
      · exact h1 m hm
      · exact h3
    · subst hq
      rw [List.mem_take_iff_getElem] at hm
      obtain ⟨j, hj, rfl⟩ := hm
      have hjk : j < k := by omega
      have hlast := h4 (by omega)
      rcases Nat.lt_or_ge j (k - 1) with h | h
      · have := (List.pairwise_iff_getElem.1 h2) j (k - 1) (by simp; omega) (by simp; omega) h
        simp only [List.getElem_take] at this
        exact Nat.lt_trans this hlast
      · have : j = k - 1 := by omega
        subst this; exact hlast
theorem wts_pre {s : List Wt} (h : WtsOk s) (k : Nat) : WtsOk (s.take k) := ⟨fun m hm => h.1 m (List.mem_of_mem_take hm), h.2.sublist (List.take_sublist k s)⟩
def addrsR (l : List PeerV) (c : List Int) : List Int := (c.drop 1).map fun i => (l.getD i.toNat ⟨0, 0⟩).addr
def uptoR (ad : List Int) (n : Nat) : List Int := ((List.range n).map fun a : Nat => (a : Int)).filter fun a => decide (a ∈ ad)
def othersR (l : List PeerV) (r : Int) (key : Plc) : List Int := uptoR (addrsR l (copiesR l key r).1) 1000
theorem upto_step {ad : List Int} {n : Nat} : uptoR ad (n + 1) = uptoR ad n ++ if (n : Int) ∈ ad then [(n : Int)] else [] := by
  unfold uptoR
  rw [List.range_succ, List.map_append, List.filter_append]
  congr 1
  by_cases h : (n : Int) ∈ ad <;> simp [h]
theorem upto_len {ad : List Int} {n : Nat} : (uptoR ad n).length ≤ n := by
  unfold uptoR
  exact Nat.le_trans (List.length_filter_le ..) (by simp)
theorem addrs_at {l : List PeerV} {c : List Int} {k : Nat} (h1 : 1 ≤ k) (hk : k < c.length) {i0 : Nat} (e : c[k] = (i0 : Int)) (hi : i0 < l.length) : (addrsR l c)[k - 1]? = some l[i0].addr := by
  unfold addrsR
  rw [List.getElem?_map, List.getElem?_drop, show 1 + (k - 1) = k by omega, List.getElem?_eq_getElem hk, e]
  simp [hi]
theorem addrs_len {l : List PeerV} {c : List Int} : (addrsR l c).length = c.length - 1 := by simp [addrsR]
theorem addrs_nodup {l : List PeerV} (hl : IsCircle l) {c : List Int} (hn : c.Nodup) (hc : ∀ j (hj : j < c.length), ∃ i : Nat, c[j] = (i : Int) ∧ i < l.length) : (addrsR l c).Nodup := by
  rw [List.Nodup, List.pairwise_iff_getElem]
  intro i j hi hj hij e
  rw [addrs_len] at hi hj
  obtain ⟨a, ha, hal⟩ := hc (i + 1) (by omega)
  obtain ⟨b, hb, hbl⟩ := hc (j + 1) (by omega)
  have h1 := addrs_at (l := l) (k := i + 1) (by omega) (by omega) ha hal
  have h2 := addrs_at (l := l) (k := j + 1) (by omega) (by omega) hb hbl
  simp only [Nat.add_sub_cancel] at h1 h2
  rw [List.getElem?_eq_getElem (by rw [addrs_len]; omega)] at h1 h2
  have e2 : l[a].addr = l[b].addr := by rw [← Option.some.inj h1, ← Option.some.inj h2]; exact e
  have hnd := hl.2.2.1
  rw [List.Nodup, List.pairwise_iff_getElem] at hnd
  have hab : a = b := by
    rcases Nat.lt_trichotomy a b with h | h | h
    · exact absurd (by rw [List.getElem_map, List.getElem_map]; exact e2) (hnd a b (by simpa using hal) (by simpa using hbl) h)
    · exact h
    · exact absurd (by rw [List.getElem_map, List.getElem_map]; exact e2.symm) (hnd b a (by simpa using hbl) (by simpa using hal) h)
  subst hab
  exact (List.pairwise_iff_getElem.1 hn) (i + 1) (j + 1) (by omega) (by omega) (by omega) (ha.trans hb.symm)
theorem gainA {ad : List Int} (hn : ad.Nodup) {k : Nat} {a x : Int} (hx : ad[k]? = some x) : (if a ∈ ad.take (k + 1) then [a] else []) = (if a ∈ ad.take k then [a] else []) ++ if x = a then [a] else [] := by
  obtain ⟨hk, he⟩ := List.getElem?_eq_some_iff.1 hx
  rw [List.take_add_one, hx]
  simp only [Option.toList_some, List.mem_append, List.mem_singleton]
  by_cases h1 : a ∈ ad.take k
  · have h2 : ¬ x = a := fun e => by
      rw [List.mem_take_iff_getElem] at h1
      obtain ⟨j, hj, hje⟩ := h1
      exact (List.pairwise_iff_getElem.1 hn) j k (by omega) hk (by omega) (by rw [hje, he, e])
    simp [h1, h2]
  · by_cases h2 : x = a
    · simp [h1, h2]
    · have : ¬ a = x := fun e => h2 e.symm
      simp [h1, h2, this]
def replyR (s : Srv) (client req : Int) (a : AnswerV) : Pst := ⟨1000 + client, ⟨2, s.epoch, 0, ⟨client, req, 0, 0, ⟨#[]⟩⟩, a, 0, Cel.zero⟩⟩
def copiesP (s : Srv) (key : Plc) (serial : Int) (to : List Int) : List Pst := to.map fun t => ⟨t, ⟨3, s.epoch, key, OpV.zero, AnswerV.zero, serial, (findP s.store key).1⟩⟩
def waitR (l : List Wt) (w : Wt) : List Wt := (l.takeWhile fun x => decide (LessP x.key w.key)) ++ w :: l.dropWhile fun x => decide (LessP x.key w.key)
def requestR (s : Srv) (l : List PeerV) (r : Int) (p : Prc) : Srv × List Pst :=
  if (l.getD (ownerI l p.key) ⟨0, 0⟩).addr ≠ s.addr then (s, [replyR s p.op.client p.op.req ⟨7, 0, false, ⟨#[]⟩⟩])
  else match s.waits.find? fun w => decide (w.key = p.key) with
    | some w => (s, copiesP s p.key w.serial w.need)
    | none =>
      let d := doC (findP s.store p.key).1 p.op
      if p.op.kind = 1 then (s, [replyR s p.op.client p.op.req d.2.1])
      else
        let q := putR s.store p.key d.1
        if q.2 ≠ 0 then (s, [])
        else
          let t : Srv := { s with store := q.1 }
          let to := othersR l r p.key
          if d.2.2.1 = false ∨ to = [] then (t, [replyR t p.op.client p.op.req d.2.1])
          else
            let u : Srv := { t with serial := w64 (s.serial + 1), waits := waitR s.waits ⟨p.key, p.op.client, p.op.req, d.2.1, w64 (s.serial + 1), to⟩ }
            (u, copiesP u p.key (w64 (s.serial + 1)) to)
def copyM (s : Srv) (p : Prc) : Cel := match findS s.store p.key with
  | some c => mergedT c p.cell
  | none => p.cell
def copyR (s : Srv) (from_ : Int) (p : Prc) : Srv × List Pst :=
  let q := putR s.store p.key (copyM s p)
  if q.2 ≠ 0 then (s, []) else ({ s with store := q.1 }, [⟨from_, ⟨4, s.epoch, 0, OpV.zero, AnswerV.zero, p.serial, Cel.zero⟩⟩])
def notI (f n : Int) : Bool := decide (n ≠ f)
theorem notI_t {f n : Int} (h : ¬ n = f) : notI f n = true := decide_eq_true h
theorem notI_f {f n : Int} (h : n = f) : notI f n = false := decide_eq_false (fun e => e h)
def lessN (w : Wt) (from_ : Int) : List Int := w.need.filter (notI from_)
def stays1 (from_ serial : Int) (w : Wt) : Option Wt := if w.serial ≠ serial then some w else if lessN w from_ = [] then none else some { w with need := lessN w from_ }
def done1 (s : Srv) (from_ serial : Int) (w : Wt) : Option Pst := if w.serial = serial ∧ lessN w from_ = [] then some (replyR s w.client w.req w.answer) else none
def copiedR (s : Srv) (from_ serial : Int) : Srv × List Pst := ({ s with waits := s.waits.filterMap (stays1 from_ serial) }, s.waits.filterMap (done1 s from_ serial))
def srvR (s : Srv) (l : List PeerV) (r from_ : Int) (p : Prc) : Srv × List Pst × Int :=
  if IsSrv s ∧ IsCircle l ∧ (1 ≤ r ∧ r ≤ 8) ∧ IsPrc p then
    if p.epoch ≠ s.epoch then (s, [], 0)
    else if p.kind = 1 then ((requestR s l r p).1, (requestR s l r p).2, 0)
    else if p.kind = 3 then ((copyR s from_ p).1, (copyR s from_ p).2, 0)
    else if p.kind = 4 then ((copiedR s from_ p.serial).1, (copiedR s from_ p.serial).2, 0)
    else (s, [], 0)
  else (Srv.zero, [], 1)
theorem waitR_at {l : List Wt} {w : Wt} {k : Nat} (hk : k ≤ l.length) (h1 : ∀ j (h : j < l.length), j < k → LessP l[j].key w.key) (h2 : ∀ h : k < l.length, ¬ LessP l[k].key w.key) : waitR l w = l.take k ++ w :: l.drop k := by
  have hp : ∀ x ∈ l.take k, (fun x : Wt => decide (LessP x.key w.key)) x = true := fun x hx => by
    rw [List.mem_take_iff_getElem] at hx
    obtain ⟨j, hj, rfl⟩ := hx
    exact decide_eq_true (h1 j (by omega) (by omega))
  have hd : (l.drop k).takeWhile (fun x => decide (LessP x.key w.key)) = [] ∧ (l.drop k).dropWhile (fun x => decide (LessP x.key w.key)) = l.drop k := by
    rcases Nat.lt_or_ge k l.length with h9 | h9
    · rw [List.drop_eq_getElem_cons h9, List.takeWhile_cons, List.dropWhile_cons, if_neg (by simpa using h2 h9), if_neg (by simpa using h2 h9)]; exact ⟨rfl, rfl⟩
    · rw [List.drop_eq_nil_of_le h9]; exact ⟨rfl, rfl⟩
  unfold waitR
  have e1 : l.takeWhile (fun x => decide (LessP x.key w.key)) = l.take k := by
    conv => lhs; rw [← List.take_append_drop k l]
    rw [List.takeWhile_append_of_pos hp, hd.1, List.append_nil]
  have e2 : l.dropWhile (fun x => decide (LessP x.key w.key)) = l.drop k := by
    conv => lhs; rw [← List.take_append_drop k l]
    rw [List.dropWhile_append_of_pos hp, hd.2]
  rw [e1, e2]
def PstsE (M : Mem) (v : Value) (r : List Pst) : Prop := ∃ x : Sl PostV, v = x.val ∧ pstl x.l = r ∧ SlK M PostV.segs 37 x ∧ ∀ y ∈ x.l, PostV.ok M y
theorem PstsE.nil {M : Mem} : PstsE M (.slice none 0 0) [] := ⟨⟨none, 0, []⟩, rfl, rfl, SlK.nil, fun y hy => by cases hy⟩
def SrvE (M : Mem) (v : Value) (r : Srv × List Pst × Int) : Prop := ∃ (s : ServerV) (x : Sl PostV), v = .tuple #[s.enc, x.val, .int .i64 r.2.2] ∧ s.pl = r.1 ∧ pstl x.l = r.2.1 ∧ ServerV.ok M s ∧ SlK M PostV.segs 37 x ∧ ∀ y ∈ x.l, PostV.ok M y
def thanI (w : Plc) (key : Plc) : Int := if w = key then 0 else if LessP w key then -1 else 1
theorem than_nn {a k : Plc} : 0 ≤ thanI a k ↔ ¬ LessP a k := by
  unfold thanI
  by_cases h : a = k
  · subst h
    rw [if_pos rfl]
    exact ⟨fun _ h2 => Nat.lt_irrefl _ h2, fun _ => Int.le_refl _⟩
  · rw [if_neg h]
    by_cases h2 : LessP a k
    · rw [if_pos h2]; exact ⟨fun h3 => by omega, fun h3 => absurd h2 h3⟩
    · rw [if_neg h2]; exact ⟨fun _ => h2, fun _ => by decide⟩
theorem than_zero {a k : Plc} : thanI a k = 0 ↔ a = k := by
  unfold thanI
  by_cases h : a = k
  · rw [if_pos h]; exact ⟨fun _ => h, fun _ => rfl⟩
  · rw [if_neg h]
    refine ⟨fun h3 => ?_, fun h3 => absurd h3 h⟩
    by_cases h2 : LessP a k
    · rw [if_pos h2] at h3; cases h3
    · rw [if_neg h2] at h3; cases h3
end Go.Esp
namespace Go.Proofs.YtpkeilhilpogiaaGreat
open Go.Esp
theorem F.elem24 : slOf Tryz.prog 24 = some (54, 28, 112) := by kernel_rfl
theorem F.foff26_0 : foff Tryz.prog 26 0 = some 0 := by kernel_rfl
theorem F.foff26_2 : foff Tryz.prog 26 2 = some 2 := by kernel_rfl
theorem F.foff26_3 : foff Tryz.prog 26 3 = some 3 := by kernel_rfl
theorem F.foff54_0 : foff Tryz.prog 54 0 = some 0 := by kernel_rfl
theorem F.foff54_1 : foff Tryz.prog 54 1 = some 20 := by kernel_rfl
theorem F.foff54_3 : foff Tryz.prog 54 3 = some 22 := by kernel_rfl
theorem F.foff54_5 : foff Tryz.prog 54 5 = some 27 := by kernel_rfl
theorem F.foff81_0 : foff Tryz.prog 81 0 = some 0 := by kernel_rfl
theorem F.foff81_1 : foff Tryz.prog 81 1 = some 20 := by kernel_rfl
theorem F.foff81_3 : foff Tryz.prog 81 3 = some 22 := by kernel_rfl
theorem F.foff81_5 : foff Tryz.prog 81 5 = some 27 := by kernel_rfl
theorem F.lay24 : lay Tryz.prog 24 = some (false, 1) := by kernel_rfl
theorem F.lay52 : lay Tryz.prog 52 = some (false, 1) := by kernel_rfl
theorem F.lay54 : lay Tryz.prog 54 = some (true, 28) := by kernel_rfl
theorem F.ok36 : okFn Tryz.prog 36 = true := by kernel_rfl
theorem F.ok39 : okFn Tryz.prog 39 = true := by kernel_rfl
theorem F.zero54 : zeroOf Tryz.prog 54 = some (aggV [idSeg 0, .one (.int .i64 0), .one (.int .u64 0), .one (.int .i64 0), .one (.int .u64 0), .one (.bool false), .one (.string ⟨#[]⟩), .one (.int .u64 0), .one (.slice none 0 0)]) := by rw [idSeg0]; kernel_rfl
theorem right_ok (M : Mem) (w : WaitV) (hw0 : WaitV.ok M w) : Fs Tryz.prog 36 [w.enc] M (fun v => v = Value.bool (decide (WtOk w.pl))) := by
  obtain ⟨Zev, Zbo, Zfh, ⟨Zat, Zaw, Zbn, Zaz⟩, Zcn, ⟨Zcl, Zck, Zac⟩⟩ := w
  have Zeq : SlK M (oneI .i64) 1 ⟨Zcl, Zck, Zac⟩ := hw0.h0
  have s_w_need : SlM M Zcl (Zac.map (oneI .i64)) 1 := Zeq.h1
  have n_w_need : (Zac.map (oneI .i64)).length = Zac.length := List.length_map ..
  have m_w_need : Zac.length ≤ 9223372036854775807 := Zeq.h2
  have c_w_need : Zac.length ≤ Zck := Zeq.h3
  refine Zci Tryz.func36 rfl Tryz.ntmps36 rfl ?_; intro H
  refine Zj ?_; refine Za (l := [0, 1]) rfl ?_
  refine Zcz ?_; intro b1
  refine Zd ?_; refine Ze ?_; refine Zc ?_; refine Y_pk [2, 1] ?_; refine Zj ?_; refine Za (l := [0]) rfl ?_; refine Zd ?_; refine Ze ?_; refine Zc ?_
  iterate 2 refine Zj ?_
  refine Za (l := [0, 1, 2, 3]) rfl ?_; refine Zb F.foff81_5 ?_; refine Zi F.lay52 ?_; refine Zbb F.elem52 ?_; refine Zf ?_; refine Ze ?_; refine Zc ?_; refine Y_pk [9, 8, 7, 3, 2, 1] ?_; refine Zbe ?_; refine Y_pk [9, 3, 8, 7, 2, 1] ?_; refine Zed (.succ (.succ .zero)) (fun (k : Nat) z => ∃ (last : Int), z = [(9, .int .i64 (k : Int)), (3, .int .i64 last)] ∧ k ≤ Zac.length ∧ (NeedOk (Zac.take k) ∧ (k = 0 → last = -1) ∧ (0 < k → Zac[k - 1]? = some last))) (fun k => Zac.length - k) (0) (⟨-1, rfl, by omega, by (refine ⟨⟨fun m hm => by simp at hm, by simp⟩, fun _ => rfl, fun h => by omega⟩)⟩) ?_
  rintro k _ ⟨last, rfl, hk, hI⟩
  refine Zj ?_; refine Za (l := [0]) rfl ?_; refine Zav ?_; refine Ze ?_; refine Zc ?_; refine Zj ?_
  refine Zau rfl (fun hc2 => ?_) (fun hc2 => ?_)
  ·replace hc2 := dT hc2
   refine Zax ?_; refine Zc ?_; refine Zj ?_; refine Zbe ?_; refine Zj ?_; refine Za (l := [0, 1, 2]) rfl ?_; refine Zaa rfl rfl rfl rfl F.elem52 (by rfl) (by omega) (by exact SlM.plain (by assumption) (by (simp; omega))) rfl ?_; refine Zay rfl rfl rfl (by assumption) (by exact Zbl (by omega)) F.lay3 rfl rfl rfl ?_; refine Zd ?_; refine Ze ?_; refine Zc ?_
   iterate 2 refine Zj ?_
   refine Za (l := [0, 1, 2, 3, 4, 5, 6]) rfl ?_
   iterate 2 refine Zf ?_
   refine Zav ?_; refine Zf ?_
   refine Zag 16 rfl (fun hc3 => ?_) (fun hc3 => ?_)
   ·replace hc3 := dT hc3
    iterate 2 refine Zz ?_
    refine Zl ?_; refine Ze ?_; refine Zc ?_; refine Zcy rfl ?_; refine Zj ?_; refine Za (l := [0]) rfl ?_; refine Zd ?_; refine Ze ?_; refine Zc ?_; refine Zak ?_; refine Zba ?_; refine Zbj ?_
    iterate 2 refine Zba ?_
    refine Zbj ?_; refine Zba ?_
    refine Zaj (.inr rfl) (.tmp rfl .nil) (fun w hw => ?_)
    refine ⟨_, rfl, (hw.c), ?_⟩
    clear hw
    show _ = Value.bool (decide (NeedOk Zac ∧ (1 ≤ Zac.length ∧ Zac.length ≤ 8) ∧ (0 ≤ Zbo ∧ Zbo ≤ 63) ∧ Zaz = ⟨#[]⟩ ∧ Zat = 0))
    refine congrArg Value.bool ?_
    refine (decide_eq_false (fun h9 => ?_)).symm
    obtain ⟨g1, g2, g3, g4, g5⟩ := h9
    have hl9 : 0 < k → (Zac[k - 1]'(by omega)) = last := fun h0 => by
     have h8 := hI.2.2 h0
     rw [List.getElem?_eq_getElem (by omega)] at h8
     exact Option.some.inj h8
    obtain ⟨_, g6, g7⟩ := (need_take (l := Zac) (k := k) (by omega)).1 (need_pre g1 (k + 1))
    rcases Nat.eq_zero_or_pos k with h0 | h0
    ·have h1 := hI.2.1 h0
     omega
    ·have h1 := hl9 h0
     have h2 := g7 h0
     omega
   ·replace hc3 := dF hc3
    refine Zf ?_; refine Zav ?_; refine Zl ?_; refine Ze ?_; refine Zc ?_
    refine Zau rfl (fun hc4 => ?_) (fun hc4 => ?_)
    ·replace hc4 := dT hc4
     refine Zj ?_; refine Za (l := [0]) rfl ?_; refine Zd ?_; refine Ze ?_; refine Zc ?_; refine Zak ?_; refine Zba ?_; refine Zbj ?_
     iterate 2 refine Zba ?_
     refine Zbj ?_; refine Zba ?_
     refine Zaj (.inr rfl) (.tmp rfl .nil) (fun w hw => ?_)
     refine ⟨_, rfl, (hw.c), ?_⟩
     clear hw
     show _ = Value.bool (decide (NeedOk Zac ∧ (1 ≤ Zac.length ∧ Zac.length ≤ 8) ∧ (0 ≤ Zbo ∧ Zbo ≤ 63) ∧ Zaz = ⟨#[]⟩ ∧ Zat = 0))
     refine congrArg Value.bool ?_
     refine (decide_eq_false (fun h9 => ?_)).symm
     obtain ⟨g1, g2, g3, g4, g5⟩ := h9
     have hl9 : 0 < k → (Zac[k - 1]'(by omega)) = last := fun h0 => by
      have h8 := hI.2.2 h0
      rw [List.getElem?_eq_getElem (by omega)] at h8
      exact Option.some.inj h8
     obtain ⟨_, g6, g7⟩ := (need_take (l := Zac) (k := k) (by omega)).1 (need_pre g1 (k + 1))
     rcases Nat.eq_zero_or_pos k with h0 | h0
     ·have h1 := hI.2.1 h0
      omega
     ·have h1 := hl9 h0
      have h2 := g7 h0
      omega
    ·replace hc4 := dF hc4
     refine Zax ?_; refine Zc ?_; refine Za (l := [0, 1]) rfl ?_; refine Zf ?_; refine Zd ?_; refine Ze ?_; refine Zde ?_; refine Zc ?_; refine Za (l := [0, 1]) rfl ?_; refine Zcc rfl rfl rfl rfl rfl (by exact Zbf (by decide) (by omega)) rfl ?_; refine Zf ?_; refine Ze ?_
     have hl9 : 0 < k → (Zac[k - 1]'(by omega)) = last := fun h0 => by
      have h8 := hI.2.2 h0
      rw [List.getElem?_eq_getElem (by omega)] at h8
      exact Option.some.inj h8
     refine Zda (a' := [(9, _), (3, _)]) (k + 1) (.cons (k := 9) rfl (.cons (k := 3) rfl (.cons (k := 8) rfl (.cons (k := 7) rfl (.cons (k := 2) rfl (.cons (k := 1) rfl (.nil))))))) (fun w hw => by first | exact hw | exact hw.c) ?_ ?_
     ·refine ⟨_, rfl, by omega, ?_⟩
      (refine ⟨?_, ?_, ?_⟩)
      ·rw [need_take (by omega)]
       refine ⟨hI.1, ⟨?_, by omega⟩, fun h0 => ?_⟩
       ·rcases Nat.eq_zero_or_pos k with h0 | h0
        ·have h1 := hI.2.1 h0; omega
        ·have h1 := hl9 h0; have h2 := hI.1.1 _ (show Zac[k - 1] ∈ Zac.take k by rw [List.mem_take_iff_getElem]; exact ⟨k - 1, by omega, rfl⟩); omega
       ·have h1 := hl9 h0; omega
      ·intro h0; omega
      ·intro h0; rw [show k + 1 - 1 = k by omega, List.getElem?_eq_getElem (by omega)]
     ·omega
  ·replace hc2 := dF hc2
   refine Zcm ?_
   iterate 2 refine Zcd ?_
   refine Zdl ?_; refine Zc ?_; refine Y_pk [2, 1] ?_; refine Zj ?_; refine Za (l := [0, 1, 2, 3, 4, 5, 6, 7, 8, 9, 10, 11, 12, 13, 14, 15, 16, 17, 18, 19, 20, 21, 22, 23, 24, 25, 26, 27, 28, 29, 30, 31, 32]) rfl ?_; refine Zb F.foff81_5 ?_; refine Zi F.lay52 ?_; refine Zbb F.elem52 ?_; refine Zav ?_; refine Zf ?_
   refine Zag 26 rfl (fun hc5 => ?_) (fun hc5 => ?_)
   ·replace hc5 := dT hc5
    refine Zb F.foff81_5 ?_; refine Zi F.lay52 ?_; refine Zbb F.elem52 ?_; refine Zav ?_; refine Zl ?_; refine Zf ?_
    refine Zag 32 rfl (fun hc6 => ?_) (fun hc6 => ?_)
    ·replace hc6 := dT hc6
     refine Zb F.foff81_1 ?_; refine Zi F.lay3 ?_; refine Zav ?_; refine Zl ?_; refine Zf ?_
     refine Zag 37 rfl (fun hc7 => ?_) (fun hc7 => ?_)
     ·replace hc7 := dT hc7
      refine Zb F.foff81_1 ?_; refine Zi F.lay3 ?_; refine Zav ?_; refine Zl ?_; refine Zf ?_
      refine Zag 42 rfl (fun hc8 => ?_) (fun hc8 => ?_)
      ·replace hc8 := dT hc8
       refine Zb F.foff81_3 ?_; refine Zb F.foff34_3 ?_; refine Zi F.lay9 ?_; refine Zgu ?_; refine Zl ?_; refine Zf ?_
       refine Zag 48 rfl (fun hc9 => ?_) (fun hc9 => ?_)
       ·replace hc9 := dT hc9
        refine Zb F.foff81_3 ?_; refine Zb F.foff34_0 ?_; refine Zi F.lay32 ?_; refine Zav ?_; refine Zl ?_; refine Zd ?_; refine Ze ?_; refine Zc ?_; refine Y_pk [2] ?_; refine Zak ?_
        refine Zaj (.inr rfl) (.tmp rfl .nil) (fun w hw => ?_)
        refine ⟨_, rfl, (hw.c), ?_⟩
        clear hw
        obtain rfl : k = Zac.length := by omega
        rw [List.take_length] at hI
        have hN := hI.1
        show _ = Value.bool (decide (NeedOk Zac ∧ (1 ≤ Zac.length ∧ Zac.length ≤ 8) ∧ (0 ≤ Zbo ∧ Zbo ≤ 63) ∧ Zaz = ⟨#[]⟩ ∧ Zat = 0))
        refine congrArg Value.bool ?_
        exact decide_eq_decide.2 ⟨fun h9 => ⟨hN, ⟨by omega, by omega⟩, ⟨by omega, by omega⟩, by assumption, h9⟩, fun h9 => h9.2.2.2.2⟩
       ·replace hc9 := dF hc9
        iterate 4 refine Zz ?_
        refine Zl ?_; refine Zd ?_; refine Ze ?_; refine Zc ?_; refine Y_pk [2] ?_; refine Zak ?_
        refine Zaj (.inr rfl) (.tmp rfl .nil) (fun w hw => ?_)
        refine ⟨_, rfl, (hw.c), ?_⟩
        clear hw
        obtain rfl : k = Zac.length := by omega
        rw [List.take_length] at hI
        have hN := hI.1
        show _ = Value.bool (decide (NeedOk Zac ∧ (1 ≤ Zac.length ∧ Zac.length ≤ 8) ∧ (0 ≤ Zbo ∧ Zbo ≤ 63) ∧ Zaz = ⟨#[]⟩ ∧ Zat = 0))
        refine congrArg Value.bool ?_
        exact (decide_eq_false (fun h9 => by obtain ⟨g1, g2, g3, g4, g5⟩ := h9; first | omega | contradiction | (simp_all; done))).symm
      ·replace hc8 := dF hc8
       iterate 4 refine Zz ?_
       refine Zl ?_; refine Zf ?_
       iterate 4 refine Zz ?_
       refine Zl ?_; refine Zd ?_; refine Ze ?_; refine Zc ?_; refine Y_pk [2] ?_; refine Zak ?_
       refine Zaj (.inr rfl) (.tmp rfl .nil) (fun w hw => ?_)
       refine ⟨_, rfl, (hw.c), ?_⟩
       clear hw
       obtain rfl : k = Zac.length := by omega
       rw [List.take_length] at hI
       have hN := hI.1
       show _ = Value.bool (decide (NeedOk Zac ∧ (1 ≤ Zac.length ∧ Zac.length ≤ 8) ∧ (0 ≤ Zbo ∧ Zbo ≤ 63) ∧ Zaz = ⟨#[]⟩ ∧ Zat = 0))
       refine congrArg Value.bool ?_
       exact (decide_eq_false (fun h9 => by obtain ⟨g1, g2, g3, g4, g5⟩ := h9; first | omega | contradiction | (simp_all; done))).symm
     ·replace hc7 := dF hc7
      iterate 3 refine Zz ?_
      refine Zl ?_; refine Zf ?_
      iterate 4 refine Zz ?_
      refine Zl ?_; refine Zf ?_
      iterate 4 refine Zz ?_
      refine Zl ?_; refine Zd ?_; refine Ze ?_; refine Zc ?_; refine Y_pk [2] ?_; refine Zak ?_
      refine Zaj (.inr rfl) (.tmp rfl .nil) (fun w hw => ?_)
      refine ⟨_, rfl, (hw.c), ?_⟩
      clear hw
      obtain rfl : k = Zac.length := by omega
      rw [List.take_length] at hI
      have hN := hI.1
      show _ = Value.bool (decide (NeedOk Zac ∧ (1 ≤ Zac.length ∧ Zac.length ≤ 8) ∧ (0 ≤ Zbo ∧ Zbo ≤ 63) ∧ Zaz = ⟨#[]⟩ ∧ Zat = 0))
      refine congrArg Value.bool ?_
      exact (decide_eq_false (fun h9 => by obtain ⟨g1, g2, g3, g4, g5⟩ := h9; first | omega | contradiction | (simp_all; done))).symm
    ·replace hc6 := dF hc6
     iterate 3 refine Zz ?_
     refine Zl ?_; refine Zf ?_
     iterate 3 refine Zz ?_
     refine Zl ?_; refine Zf ?_
     iterate 4 refine Zz ?_
     refine Zl ?_; refine Zf ?_
     iterate 4 refine Zz ?_
     refine Zl ?_; refine Zd ?_; refine Ze ?_; refine Zc ?_; refine Y_pk [2] ?_; refine Zak ?_
     refine Zaj (.inr rfl) (.tmp rfl .nil) (fun w hw => ?_)
     refine ⟨_, rfl, (hw.c), ?_⟩
     clear hw
     obtain rfl : k = Zac.length := by omega
     rw [List.take_length] at hI
     have hN := hI.1
     show _ = Value.bool (decide (NeedOk Zac ∧ (1 ≤ Zac.length ∧ Zac.length ≤ 8) ∧ (0 ≤ Zbo ∧ Zbo ≤ 63) ∧ Zaz = ⟨#[]⟩ ∧ Zat = 0))
     refine congrArg Value.bool ?_
     exact (decide_eq_false (fun h9 => by obtain ⟨g1, g2, g3, g4, g5⟩ := h9; first | omega | contradiction | (simp_all; done))).symm
   ·replace hc5 := dF hc5
    iterate 4 refine Zz ?_
    refine Zl ?_; refine Zf ?_
    iterate 3 refine Zz ?_
    refine Zl ?_; refine Zf ?_
    iterate 3 refine Zz ?_
    refine Zl ?_; refine Zf ?_
    iterate 4 refine Zz ?_
    refine Zl ?_; refine Zf ?_
    iterate 4 refine Zz ?_
    refine Zl ?_; refine Zd ?_; refine Ze ?_; refine Zc ?_; refine Y_pk [2] ?_; refine Zak ?_
    refine Zaj (.inr rfl) (.tmp rfl .nil) (fun w hw => ?_)
    refine ⟨_, rfl, (hw.c), ?_⟩
    clear hw
    obtain rfl : k = Zac.length := by omega
    rw [List.take_length] at hI
    have hN := hI.1
    show _ = Value.bool (decide (NeedOk Zac ∧ (1 ≤ Zac.length ∧ Zac.length ≤ 8) ∧ (0 ≤ Zbo ∧ Zbo ≤ 63) ∧ Zaz = ⟨#[]⟩ ∧ Zat = 0))
    refine congrArg Value.bool ?_
    exact (decide_eq_false (fun h9 => by obtain ⟨g1, g2, g3, g4, g5⟩ := h9; first | omega | contradiction | (simp_all; done))).symm
theorem rWait_ok (M : Mem) (w : WaitV) (hw0 : WaitV.ok M w) : Fs Tryz.prog 39 [w.enc] M (fun v => v = Value.bool (decide (WtOk w.pl))) := by
  obtain ⟨Zev, Zbo, Zfh, ⟨Zat, Zaw, Zbn, Zaz⟩, Zcn, ⟨Zcl, Zck, Zac⟩⟩ := w
  have Zeq : SlK M (oneI .i64) 1 ⟨Zcl, Zck, Zac⟩ := hw0.h0
  have s_w_need : SlM M Zcl (Zac.map (oneI .i64)) 1 := Zeq.h1
  have n_w_need : (Zac.map (oneI .i64)).length = Zac.length := List.length_map ..
  have m_w_need : Zac.length ≤ 9223372036854775807 := Zeq.h2
  have c_w_need : Zac.length ≤ Zck := Zeq.h3
  refine Zci Tryz.func39 rfl Tryz.ntmps39 rfl ?_; intro H
  refine Zj ?_; refine Za (l := [0, 1]) rfl ?_
  refine Zcz ?_; intro b1
  refine Zd ?_; refine Ze ?_; refine Zc ?_; refine Y_pk [2, 1] ?_
  iterate 2 refine Zj ?_
  refine Za (l := [0, 1, 2, 3, 4, 5, 6, 7, 8, 9, 10, 11, 12, 13, 14, 15, 16, 17, 18, 19, 20, 21, 22, 23, 24, 25, 26, 27, 28, 29, 30, 31]) rfl ?_; refine Zb F.foff54_1 ?_; refine Zi F.lay3 ?_; refine Zav ?_; refine Zf ?_
  refine Zag 7 rfl (fun hc2 => ?_) (fun hc2 => ?_)
  ·replace hc2 := dT hc2
   iterate 3 refine Zz ?_
   refine Zl ?_; refine Zf ?_
   iterate 4 refine Zz ?_
   refine Zl ?_; refine Zf ?_
   iterate 4 refine Zz ?_
   refine Zl ?_; refine Zf ?_
   iterate 4 refine Zz ?_
   refine Zl ?_; refine Zf ?_
   iterate 4 refine Zz ?_
   refine Zl ?_; refine Ze ?_; refine Zc ?_; refine Y_pk [35, 2, 1] ?_; refine Zcy rfl ?_; refine Zj ?_; refine Za (l := [0]) rfl ?_; refine Zd ?_; refine Ze ?_; refine Zc ?_; refine Y_pk [2, 1] ?_; refine Zak ?_; refine Zba ?_
   refine Zaj (.inr rfl) (.tmp rfl .nil) (fun w hw => ?_)
   refine ⟨_, rfl, (hw.c), ?_⟩
   clear hw
   show _ = Value.bool (decide (NeedOk Zac ∧ (1 ≤ Zac.length ∧ Zac.length ≤ 8) ∧ (0 ≤ Zbo ∧ Zbo ≤ 63) ∧ Zaz = ⟨#[]⟩ ∧ Zat = 0))
   refine congrArg Value.bool ?_
   refine (decide_eq_false (fun h9 => ?_)).symm
   obtain ⟨g1, g2, g3, g4, g5⟩ := h9
   omega
  ·replace hc2 := dF hc2
   refine Zb F.foff54_1 ?_; refine Zi F.lay3 ?_; refine Zav ?_; refine Zl ?_; refine Zf ?_
   refine Zag 12 rfl (fun hc3 => ?_) (fun hc3 => ?_)
   ·replace hc3 := dT hc3
    iterate 4 refine Zz ?_
    refine Zl ?_; refine Zf ?_
    iterate 4 refine Zz ?_
    refine Zl ?_; refine Zf ?_
    iterate 4 refine Zz ?_
    refine Zl ?_; refine Zf ?_
    iterate 4 refine Zz ?_
    refine Zl ?_; refine Ze ?_; refine Zc ?_; refine Y_pk [35, 2, 1] ?_; refine Zcy rfl ?_; refine Zj ?_; refine Za (l := [0]) rfl ?_; refine Zd ?_; refine Ze ?_; refine Zc ?_; refine Y_pk [2, 1] ?_; refine Zak ?_; refine Zba ?_
    refine Zaj (.inr rfl) (.tmp rfl .nil) (fun w hw => ?_)
    refine ⟨_, rfl, (hw.c), ?_⟩
    clear hw
    show _ = Value.bool (decide (NeedOk Zac ∧ (1 ≤ Zac.length ∧ Zac.length ≤ 8) ∧ (0 ≤ Zbo ∧ Zbo ≤ 63) ∧ Zaz = ⟨#[]⟩ ∧ Zat = 0))
    refine congrArg Value.bool ?_
    refine (decide_eq_false (fun h9 => ?_)).symm
    obtain ⟨g1, g2, g3, g4, g5⟩ := h9
    omega
   ·replace hc3 := dF hc3
    refine Zb F.foff54_3 ?_; refine Zb F.foff34_3 ?_; refine Zi F.lay9 ?_; refine Zgu ?_; refine Zl ?_; refine Zf ?_
    refine Zag 18 rfl (fun hc4 => ?_) (fun hc4 => ?_)
    ·replace hc4 := nT hc4
     iterate 4 refine Zz ?_
     refine Zl ?_; refine Zf ?_
     iterate 4 refine Zz ?_
     refine Zl ?_; refine Zf ?_
     iterate 4 refine Zz ?_
     refine Zl ?_; refine Ze ?_; refine Zc ?_; refine Y_pk [35, 2, 1] ?_; refine Zcy rfl ?_; refine Zj ?_; refine Za (l := [0]) rfl ?_; refine Zd ?_; refine Ze ?_; refine Zc ?_; refine Y_pk [2, 1] ?_; refine Zak ?_; refine Zba ?_
     refine Zaj (.inr rfl) (.tmp rfl .nil) (fun w hw => ?_)
     refine ⟨_, rfl, (hw.c), ?_⟩
     clear hw
     show _ = Value.bool (decide (NeedOk Zac ∧ (1 ≤ Zac.length ∧ Zac.length ≤ 8) ∧ (0 ≤ Zbo ∧ Zbo ≤ 63) ∧ Zaz = ⟨#[]⟩ ∧ Zat = 0))
     refine congrArg Value.bool ?_
     refine (decide_eq_false (fun h9 => ?_)).symm
     obtain ⟨g1, g2, g3, g4, g5⟩ := h9
     contradiction
    ·replace hc4 := nF hc4
     refine Zb F.foff54_3 ?_; refine Zb F.foff34_0 ?_; refine Zi F.lay32 ?_; refine Zav ?_; refine Zl ?_; refine Zf ?_
     refine Zag 24 rfl (fun hc5 => ?_) (fun hc5 => ?_)
     ·replace hc5 := nT hc5
      iterate 4 refine Zz ?_
      refine Zl ?_; refine Zf ?_
      iterate 4 refine Zz ?_
      refine Zl ?_; refine Ze ?_; refine Zc ?_; refine Y_pk [35, 2, 1] ?_; refine Zcy rfl ?_; refine Zj ?_; refine Za (l := [0]) rfl ?_; refine Zd ?_; refine Ze ?_; refine Zc ?_; refine Y_pk [2, 1] ?_; refine Zak ?_; refine Zba ?_
      refine Zaj (.inr rfl) (.tmp rfl .nil) (fun w hw => ?_)
      refine ⟨_, rfl, (hw.c), ?_⟩
      clear hw
      show _ = Value.bool (decide (NeedOk Zac ∧ (1 ≤ Zac.length ∧ Zac.length ≤ 8) ∧ (0 ≤ Zbo ∧ Zbo ≤ 63) ∧ Zaz = ⟨#[]⟩ ∧ Zat = 0))
      refine congrArg Value.bool ?_
      refine (decide_eq_false (fun h9 => ?_)).symm
      obtain ⟨g1, g2, g3, g4, g5⟩ := h9
      omega
     ·replace hc5 := nF hc5
      refine Zb F.foff54_5 ?_; refine Zi F.lay52 ?_; refine Zbb F.elem52 ?_; refine Zav ?_; refine Zl ?_; refine Zf ?_
      refine Zag 30 rfl (fun hc6 => ?_) (fun hc6 => ?_)
      ·replace hc6 := dT hc6
       iterate 4 refine Zz ?_
       refine Zl ?_; refine Ze ?_; refine Zc ?_; refine Y_pk [35, 2, 1] ?_; refine Zcy rfl ?_; refine Zj ?_; refine Za (l := [0]) rfl ?_; refine Zd ?_; refine Ze ?_; refine Zc ?_; refine Y_pk [2, 1] ?_; refine Zak ?_; refine Zba ?_
       refine Zaj (.inr rfl) (.tmp rfl .nil) (fun w hw => ?_)
       refine ⟨_, rfl, (hw.c), ?_⟩
       clear hw
       show _ = Value.bool (decide (NeedOk Zac ∧ (1 ≤ Zac.length ∧ Zac.length ≤ 8) ∧ (0 ≤ Zbo ∧ Zbo ≤ 63) ∧ Zaz = ⟨#[]⟩ ∧ Zat = 0))
       refine congrArg Value.bool ?_
       refine (decide_eq_false (fun h9 => ?_)).symm
       obtain ⟨g1, g2, g3, g4, g5⟩ := h9
       omega
      ·replace hc6 := dF hc6
       refine Zb F.foff54_5 ?_; refine Zi F.lay52 ?_; refine Zbb F.elem52 ?_; refine Zav ?_; refine Zl ?_; refine Ze ?_; refine Zc ?_; refine Y_pk [35, 2, 1] ?_
       refine Zau rfl (fun hc7 => ?_) (fun hc7 => ?_)
       ·replace hc7 := dT hc7
        refine Zj ?_; refine Za (l := [0]) rfl ?_; refine Zd ?_; refine Ze ?_; refine Zc ?_; refine Y_pk [2, 1] ?_; refine Zak ?_; refine Zba ?_
        refine Zaj (.inr rfl) (.tmp rfl .nil) (fun w hw => ?_)
        refine ⟨_, rfl, (hw.c), ?_⟩
        clear hw
        show _ = Value.bool (decide (NeedOk Zac ∧ (1 ≤ Zac.length ∧ Zac.length ≤ 8) ∧ (0 ≤ Zbo ∧ Zbo ≤ 63) ∧ Zaz = ⟨#[]⟩ ∧ Zat = 0))
        refine congrArg Value.bool ?_
        refine (decide_eq_false (fun h9 => ?_)).symm
        obtain ⟨g1, g2, g3, g4, g5⟩ := h9
        omega
       ·replace hc7 := dF hc7
        refine Zax ?_; refine Zc ?_; refine Y_pk [2, 1] ?_
        iterate 2 refine Zj ?_
        refine Za (l := [0]) rfl ?_; refine Zd ?_; refine Ze ?_; refine Zc ?_; refine Zbe ?_; refine Y_pk [3, 2, 1] ?_; refine Zed (.succ .zero) (fun (k : Nat) z => z = [(3, .int .i64 (k : Int))] ∧ k ≤ Zac.length ∧ (NeedOk (Zac.take k))) (fun k => Zac.length - k) (0) (⟨rfl, by omega, by (exact ⟨fun m hm => by simp at hm, by simp⟩)⟩) ?_
        rintro k _ ⟨rfl, hk, hI⟩
        iterate 2 refine Zj ?_
        refine Za (l := [0, 1, 2, 3, 4]) rfl ?_; refine Zf ?_; refine Zb F.foff54_5 ?_; refine Zi F.lay52 ?_; refine Zbb F.elem52 ?_; refine Zav ?_; refine Ze ?_; refine Zc ?_
        refine Zau rfl (fun hc8 => ?_) (fun hc8 => ?_)
        ·replace hc8 := dT hc8
         refine Zax ?_; refine Zc ?_; refine Zj ?_; refine Zbe ?_; refine Zj ?_; refine Zar (l := [0, 1, 2, 3, 4, 5, 6, 7, 8, 9, 10, 11, 12, 13, 14, 15, 16, 17, 18, 19, 20, 21, 22, 23, 24, 25, 26, 27, 28, 29, 30, 31]) #[0, 1, 0, 7, 15, 31, 63, 127, 255, 127, 1023, 2047, 4095, 8191, 16383, 32767, 65535, 131071, 262143, 524287, 262143, 2097151, 4194303, 262143, 8650751, 262143, 33816575, 126091263, 260308991, 536870911, 1073741823, 2147483647] _ rfl (by kernel_rfl) (by kernel_rfl) St.drawn (fun _ h => h) ?_; refine Zb F.foff54_5 ?_; refine Zi F.lay52 ?_; refine Zf ?_; refine Zaa rfl rfl rfl rfl F.elem52 (by rfl) (by omega) (by exact SlM.plain (by assumption) (by (simp; omega))) rfl ?_; refine Zay rfl rfl rfl (by assumption) (by exact Zbl (by omega)) F.lay3 rfl rfl rfl ?_; refine Zav ?_; refine Zf ?_
         refine Zag 49 rfl (fun hc9 => ?_) (fun hc9 => ?_)
         ·replace hc9 := dT hc9
          iterate 6 refine Zz ?_
          refine Zl ?_; refine Zf ?_
          iterate 16 refine Zz ?_
          refine Zl ?_; refine Ze ?_; refine Zc ?_; refine Zcy rfl ?_; refine Zj ?_; refine Za (l := [0]) rfl ?_; refine Zd ?_; refine Ze ?_; refine Zc ?_; refine Zak ?_; refine Zbj ?_
          iterate 2 refine Zba ?_
          refine Zbj ?_; refine Zba ?_
          refine Zaj (.inr rfl) (.tmp rfl .nil) (fun w hw => ?_)
          refine ⟨_, rfl, (hw.c), ?_⟩
          clear hw
          show _ = Value.bool (decide (NeedOk Zac ∧ (1 ≤ Zac.length ∧ Zac.length ≤ 8) ∧ (0 ≤ Zbo ∧ Zbo ≤ 63) ∧ Zaz = ⟨#[]⟩ ∧ Zat = 0))
          refine congrArg Value.bool ?_
          refine (decide_eq_false (fun h9 => ?_)).symm
          obtain ⟨g1, g2, g3, g4, g5⟩ := h9
          obtain ⟨_, g6, g7⟩ := (need_take (l := Zac) (k := k) (by omega)).1 (need_pre g1 (k + 1))
          omega
         ·replace hc9 := dF hc9
          refine Zb F.foff54_5 ?_; refine Zi F.lay52 ?_; refine Zf ?_; refine Zaa rfl rfl rfl rfl F.elem52 (by rfl) (by omega) (by exact SlM.plain (by assumption) (by (simp; omega))) rfl ?_; refine Zay rfl rfl rfl (by assumption) (by exact Zbl (by omega)) F.lay3 rfl rfl rfl ?_; refine Zav ?_; refine Zl ?_; refine Zf ?_
          refine Zag 57 rfl (fun hc10 => ?_) (fun hc10 => ?_)
          ·replace hc10 := dT hc10
           iterate 16 refine Zz ?_
           refine Zl ?_; refine Ze ?_; refine Zc ?_; refine Zcy rfl ?_; refine Zj ?_; refine Za (l := [0]) rfl ?_; refine Zd ?_; refine Ze ?_; refine Zc ?_; refine Zak ?_; refine Zbj ?_
           iterate 2 refine Zba ?_
           refine Zbj ?_; refine Zba ?_
           refine Zaj (.inr rfl) (.tmp rfl .nil) (fun w hw => ?_)
           refine ⟨_, rfl, (hw.c), ?_⟩
           clear hw
           show _ = Value.bool (decide (NeedOk Zac ∧ (1 ≤ Zac.length ∧ Zac.length ≤ 8) ∧ (0 ≤ Zbo ∧ Zbo ≤ 63) ∧ Zaz = ⟨#[]⟩ ∧ Zat = 0))
           refine congrArg Value.bool ?_
           refine (decide_eq_false (fun h9 => ?_)).symm
           obtain ⟨g1, g2, g3, g4, g5⟩ := h9
           obtain ⟨_, g6, g7⟩ := (need_take (l := Zac) (k := k) (by omega)).1 (need_pre g1 (k + 1))
           omega
          ·replace hc10 := dF hc10
           refine Zf ?_; refine Zav ?_; refine Zf ?_
           refine Zag 60 rfl (fun hc11 => ?_) (fun hc11 => ?_)
           ·replace hc11 := dT hc11
            refine Zb F.foff54_5 ?_; refine Zi F.lay52 ?_; refine Zf ?_; refine Zaa rfl rfl rfl rfl F.elem52 (by rfl) (by omega) (by exact SlM.plain (by assumption) (by (simp; omega))) rfl ?_; refine Zay rfl rfl rfl (by assumption) (by exact Zbl (by omega)) F.lay3 rfl rfl rfl ?_; refine Zb F.foff54_5 ?_; refine Zi F.lay52 ?_; refine Zf ?_; refine Zcc rfl rfl rfl rfl rfl (by exact Zbf (by decide) (by omega)) rfl ?_; refine Zaa rfl rfl rfl rfl F.elem52 (by exact (Int.toNat_of_nonneg (by omega)).symm) (by omega) (by exact SlM.plain (by assumption) (by (simp; omega))) rfl ?_; refine Zay rfl rfl rfl (by assumption) (by exact Zbl (by omega)) F.lay3 rfl rfl rfl ?_; refine Zav ?_
            iterate 2 refine Zl ?_
            refine Ze ?_; refine Zc ?_
            refine Zau rfl (fun hc12 => ?_) (fun hc12 => ?_)
            ·replace hc12 := dT hc12
             refine Zj ?_; refine Za (l := [0]) rfl ?_; refine Zd ?_; refine Ze ?_; refine Zc ?_; refine Zak ?_; refine Zbj ?_
             iterate 2 refine Zba ?_
             refine Zbj ?_; refine Zba ?_
             refine Zaj (.inr rfl) (.tmp rfl .nil) (fun w hw => ?_)
             refine ⟨_, rfl, (hw.c), ?_⟩
             clear hw
             show _ = Value.bool (decide (NeedOk Zac ∧ (1 ≤ Zac.length ∧ Zac.length ≤ 8) ∧ (0 ≤ Zbo ∧ Zbo ≤ 63) ∧ Zaz = ⟨#[]⟩ ∧ Zat = 0))
             refine congrArg Value.bool ?_
             refine (decide_eq_false (fun h9 => ?_)).symm
             obtain ⟨g1, g2, g3, g4, g5⟩ := h9
             obtain ⟨_, g6, g7⟩ := (need_take (l := Zac) (k := k) (by omega)).1 (need_pre g1 (k + 1))
             (have h2 := g7 (by omega); have e9 : (Zac[((k : Int) - 1).toNat]'(by omega)) = (Zac[k - 1]'(by omega)) := (by congr 1; omega); omega)
            ·replace hc12 := dF hc12
             refine Zax ?_; refine Zde ?_; refine Zc ?_; refine Za (l := [0, 1, 2]) rfl ?_; refine Zf ?_; refine Zcc rfl rfl rfl rfl rfl (by exact Zbf (by decide) (by omega)) rfl ?_; refine Zd ?_; refine Ze ?_; refine Zda (a' := [(3, _)]) (k + 1) (.cons (k := 3) rfl (.cons (k := 2) rfl (.cons (k := 1) rfl (.nil)))) (fun w hw => by first | exact hw | exact hw.c) ?_ ?_
             ·refine ⟨rfl, by omega, ?_⟩
              (rw [need_take (by omega)])
              refine ⟨hI, ⟨by omega, by omega⟩, fun h0 => ?_⟩
              have e9 : (Zac[((k : Int) - 1).toNat]'(by omega)) = (Zac[k - 1]'(by omega)) := (by congr 1; omega)
              omega
             ·omega
           ·replace hc11 := dF hc11
            iterate 12 refine Zz ?_
            iterate 2 refine Zl ?_
            refine Ze ?_; refine Zc ?_; refine Zeu rfl ?_; refine Zax ?_; refine Zde ?_; refine Zc ?_; refine Za (l := [0, 1, 2]) rfl ?_; refine Zf ?_; refine Zcc rfl rfl rfl rfl rfl (by exact Zbf (by decide) (by omega)) rfl ?_; refine Zd ?_; refine Ze ?_; refine Zda (a' := [(3, _)]) (k + 1) (.cons (k := 3) rfl (.cons (k := 2) rfl (.cons (k := 1) rfl (.nil)))) (fun w hw => by first | exact hw | exact hw.c) ?_ ?_
            ·refine ⟨rfl, by omega, ?_⟩
             (rw [need_take (by omega)])
             refine ⟨hI, ⟨by omega, by omega⟩, fun h0 => ?_⟩
             have e9 : (Zac[((k : Int) - 1).toNat]'(by omega)) = (Zac[k - 1]'(by omega)) := (by congr 1; omega)
             omega
            ·omega
        ·replace hc8 := dF hc8
         refine Zcm ?_
         iterate 2 refine Zcd ?_
         refine Zdl ?_; refine Zc ?_; refine Y_pk [2] ?_; refine Zj ?_; refine Za (l := [0]) rfl ?_; refine Zd ?_; refine Ze ?_; refine Zc ?_; refine Zak ?_
         refine Zaj (.inr rfl) (.tmp rfl .nil) (fun w hw => ?_)
         refine ⟨_, rfl, (hw.c), ?_⟩
         clear hw
         obtain rfl : k = Zac.length := by omega
         rw [List.take_length] at hI
         show _ = Value.bool (decide (NeedOk Zac ∧ (1 ≤ Zac.length ∧ Zac.length ≤ 8) ∧ (0 ≤ Zbo ∧ Zbo ≤ 63) ∧ Zaz = ⟨#[]⟩ ∧ Zat = 0))
         refine congrArg Value.bool ?_
         exact (decide_eq_true ⟨hI, ⟨by omega, by omega⟩, ⟨by omega, by omega⟩, by first | assumption | (simp_all; done), by first | assumption | omega⟩).symm
theorem than_ok (M : Mem) (w : WaitV) (key : Plc) (hw0 : WaitV.ok M w) : Fs Tryz.prog 90 [w.enc, aggV [idSeg key]] M (fun v => v = Value.int .i64 (thanI w.key key)) := by
  obtain ⟨Zev, Zbo, Zfh, ⟨Zat, Zaw, Zbn, Zaz⟩, Zcn, ⟨Zcl, Zck, Zac⟩⟩ := w
  have Zeq : SlK M (oneI .i64) 1 ⟨Zcl, Zck, Zac⟩ := hw0.h0
  have s_w_need : SlM M Zcl (Zac.map (oneI .i64)) 1 := Zeq.h1
  have n_w_need : (Zac.map (oneI .i64)).length = Zac.length := List.length_map ..
  have m_w_need : Zac.length ≤ 9223372036854775807 := Zeq.h2
  have c_w_need : Zac.length ≤ Zck := Zeq.h3
  refine Zci Tryz.func90 rfl Tryz.ntmps90 rfl ?_; intro H
  refine Zj ?_; refine Za (l := [0, 1, 2]) rfl ?_
  refine Zcz ?_; intro b1
  refine Zcz ?_; intro b2
  refine Zd ?_; refine Ze ?_; refine Zc ?_; refine Y_pk [4, 3, 2] ?_; refine Zj ?_; refine Zbe ?_; refine Zj ?_; refine Za (l := [0, 1, 2, 3, 4]) rfl ?_; refine Zb F.foff81_0 ?_
  iterate 2 refine Zi F.lay29 ?_
  refine Zfx (m := 20) rfl rfl rfl rfl rfl (by constructor) (by constructor) F.lay29 F.kinds29 rfl F.guard29 (Zga Zez) (Zga Zez) rfl rfl rfl ?_; intro c3 he4
  replace he4 : c3 = true ↔ Segs.cells _ = Segs.cells _ := he4
  obtain rfl := eqD he4 (Zfu (x := _) (y := _)); clear he4
  refine Zd ?_; refine Ze ?_; refine Zc ?_; refine Y_pk [5, 4, 3, 2] ?_
  refine Zau rfl (fun hc5 => ?_) (fun hc5 => ?_)
  ·replace hc5 := dT hc5
   refine Zj ?_; refine Za (l := [0]) rfl ?_; refine Zd ?_; refine Ze ?_; refine Zc ?_; refine Y_pk [4] ?_; refine Zak ?_; refine Zbj ?_; refine Zba ?_
   refine Zaj (.inr rfl) (.tmp rfl .nil) (fun w hw => ?_)
   refine ⟨_, rfl, (hw.c), ?_⟩
   clear hw
   refine congrArg (Value.int .i64) ?_
   show _ = thanI Zev key
   unfold thanI
   (subst_vars; simp; done)
  ·replace hc5 := dF hc5
   refine Zj ?_; refine Za (l := [0, 1, 2, 3, 4]) rfl ?_; refine Zb F.foff81_0 ?_
   iterate 2 refine Zi F.lay29 ?_
   refine X_fs rfl rfl F.ok37 rfl (Less_ok _ _ _) rfl ?_
   rintro _ rfl
   refine Zd ?_; refine Ze ?_; refine Zc ?_; refine Y_pk [10, 4] ?_
   refine Zau rfl (fun hc6 => ?_) (fun hc6 => ?_)
   ·replace hc6 := dT hc6
    refine Zj ?_; refine Za (l := [0]) rfl ?_; refine Zd ?_; refine Ze ?_; refine Zc ?_; refine Y_pk [4] ?_; refine Zak ?_; refine Zbj ?_; refine Zba ?_
    refine Zaj (.inr rfl) (.tmp rfl .nil) (fun w hw => ?_)
    refine ⟨_, rfl, (hw.c), ?_⟩
    clear hw
    refine congrArg (Value.int .i64) ?_
    show _ = thanI Zev key
    unfold thanI
    (rw [if_neg (by assumption), if_pos (by assumption)]; done)
   ·replace hc6 := dF hc6
    refine Zax ?_; refine Zde ?_; refine Zc ?_; refine Y_pk [4] ?_; refine Zj ?_; refine Za (l := [0]) rfl ?_; refine Zd ?_; refine Ze ?_; refine Zc ?_; refine Zak ?_
    refine Zaj (.inr rfl) (.tmp rfl .nil) (fun w hw => ?_)
    refine ⟨_, rfl, (hw.c), ?_⟩
    clear hw
    refine congrArg (Value.int .i64) ?_
    show _ = thanI Zev key
    unfold thanI
    (rw [if_neg (by assumption), if_neg (by assumption)]; done)
theorem SIs_ok (M : Mem) (s : ServerV) (hs0 : ServerV.ok M s) : Fs Tryz.prog 14 [s.enc] M (fun v => v = Value.bool (decide (IsSrv s.pl))) := by
  obtain ⟨Zaf, Zx, ⟨Zr, Zq, Zh⟩, ⟨Zp, Zo, Zg⟩, Zw⟩ := s
  have Zbw : SlK M HeldV.segs 24 ⟨Zr, Zq, Zh⟩ := hs0.h0
  have Zfr : SlM M Zr (Zh.map HeldV.segs) 24 := Zbw.h1
  have n_s_store : (Zh.map HeldV.segs).length = Zh.length := List.length_map ..
  have m_s_store : Zh.length ≤ 9223372036854775807 := Zbw.h2
  have c_s_store : Zh.length ≤ Zq := Zbw.h3
  have Zdq : ∀ y ∈ Zh, HeldV.ok M y := hs0.h1
  have Zbz : SlK M WaitV.segs 28 ⟨Zp, Zo, Zg⟩ := hs0.h2
  have Zfn : SlM M Zp (Zg.map WaitV.segs) 28 := Zbz.h1
  have n_s_waits : (Zg.map WaitV.segs).length = Zg.length := List.length_map ..
  have m_s_waits : Zg.length ≤ 9223372036854775807 := Zbz.h2
  have c_s_waits : Zg.length ≤ Zo := Zbz.h3
  have Zdp : ∀ y ∈ Zg, WaitV.ok M y := hs0.h3
  refine Zci Tryz.func14 rfl Tryz.ntmps14 rfl ?_; intro H
  refine Zj ?_; refine Za (l := [0, 1]) rfl ?_
  refine Zcz ?_; intro b1
  refine Zd ?_; refine Ze ?_; refine Zc ?_; refine Y_pk [2, 1] ?_
  iterate 2 refine Zj ?_
  refine Za (l := [0, 1, 2, 3]) rfl ?_; refine Zb F.foff26_3 ?_; refine Zi F.lay24 ?_; refine Zbb F.elem24 ?_; refine Zf ?_; refine Ze ?_; refine Zc ?_; refine Y_pk [8, 7, 6, 2, 1] ?_; refine Zbe ?_; refine Y_pk [8, 7, 6, 2, 1] ?_; refine Zed (.succ .zero) (fun (k : Nat) z => z = [(8, .int .i64 (k : Int))] ∧ k ≤ Zg.length ∧ (WtsOk ((wtl Zg).take k))) (fun k => Zg.length - k) (0) (⟨rfl, by omega, by (exact ⟨fun m hm => by simp at hm, by simp⟩)⟩) ?_
  rintro k _ ⟨rfl, hk, hI⟩
  refine Zj ?_; refine Za (l := [0]) rfl ?_; refine Zav ?_; refine Ze ?_; refine Zc ?_; refine Zj ?_
  refine Zau rfl (fun hc2 => ?_) (fun hc2 => ?_)
  ·replace hc2 := dT hc2
   refine Zax ?_; refine Zc ?_; refine Zj ?_; refine Zbe ?_; refine Zj ?_; refine Za (l := [0, 1, 2, 3, 4, 5]) rfl ?_; refine Zf ?_; refine Zaa rfl rfl rfl rfl F.elem24 (by rfl) (by omega) (by exact SlM.plain (by assumption) (by (simp; omega))) rfl ?_; refine Zay rfl rfl rfl (by assumption) (by exact Zbl (by omega)) F.lay54 rfl rfl rfl ?_
   refine Zby F.zero54 ?_; intro b3
   refine Zd ?_; refine Zas F.lay54 ?_; refine Ze ?_; refine Zc ?_; refine Zj ?_
   have hpk : (wtl Zg)[k]'(by rw [Zcs]; omega) = WaitV.pl Zg[k] := by simp [wtl]
   have hp9 : ∀ h : 0 < k, (wtl Zg)[k - 1]'(by rw [Zcs]; omega) = WaitV.pl Zg[k - 1] := fun h => by simp [wtl]
   have e9 : ∀ h0 : 0 < k, Zg[((k : Int) - 1).toNat]'(by omega) = Zg[k - 1]'(by omega) := fun h0 => by congr 1; omega
   refine Zar (l := [0, 1, 2, 3, 4, 5, 6, 7, 8, 9, 10, 11, 12, 13, 14, 15, 16, 17, 18, 19]) #[0, 1, 3, 7, 15, 31, 63, 127, 255, 127, 639, 2047, 4095, 8191, 127, 16511, 65535, 131071, 262143, 524287] _ rfl (by kernel_rfl) (by kernel_rfl) St.drawn (fun _ h => h) ?_; refine Zi F.lay54 ?_; refine X_fs rfl rfl F.ok36 rfl (right_ok _ Zg[k] (Zdp _ (List.getElem_mem (by omega)))) rfl ?_
   rintro _ rfl
   refine Zel ?_; refine Zf ?_
   refine Zag 16 rfl (fun hc4 => ?_) (fun hc4 => ?_)
   ·replace hc4 := nT hc4
    iterate 15 refine Zz ?_
    refine Zl ?_; refine Ze ?_; refine Zc ?_; refine Zcy rfl ?_; refine Zj ?_; refine Za (l := [0]) rfl ?_; refine Zd ?_; refine Ze ?_; refine Zc ?_; refine Zak ?_; refine Zbj ?_
    iterate 2 refine Zba ?_
    refine Zbj ?_; refine Zba ?_
    refine Zaj (.inr rfl) (.tmp rfl .nil) (fun w hw => ?_)
    refine ⟨_, rfl, (hw.c), ?_⟩
    clear hw
    show _ = Value.bool (decide (WtsOk (wtl Zg) ∧ (0 ≤ Zaf ∧ Zaf ≤ 999) ∧ IsSt (pls Zh)))
    refine congrArg Value.bool (decide_eq_false (fun h9 => ?_)).symm
    obtain ⟨_, g1, g2⟩ := (wts_take (s := wtl Zg) (k := k) (by rw [Zcs]; omega)).1 (wts_pre h9.1 (k + 1))
    rw [hpk] at g1
    contradiction
   ·replace hc4 := nF hc4
    refine Zf ?_; refine Zav ?_; refine Zf ?_
    refine Zag 19 rfl (fun hc5 => ?_) (fun hc5 => ?_)
    ·replace hc5 := dT hc5
     refine Zb F.foff26_3 ?_; refine Zi F.lay24 ?_; refine Zf ?_; refine Zcc rfl rfl rfl rfl rfl (by exact Zbf (by decide) (by omega)) rfl ?_; refine Zaa rfl rfl rfl rfl F.elem24 (by exact (Int.toNat_of_nonneg (by omega)).symm) (by omega) (by exact SlM.plain (by assumption) (by (simp; omega))) rfl ?_; refine Zaq rfl rfl rfl (by exact SlM.plain (by assumption) (by (simp; omega))) F.foff54_0 rfl ?_; refine Zay rfl rfl rfl (by assumption) (by exact Zbl (by omega)) F.lay29 rfl rfl rfl ?_; refine Zb F.foff54_0 ?_; refine Zi F.lay29 ?_; refine X_fs rfl rfl F.ok37 rfl (Less_ok _ _ _) rfl ?_
     rintro _ rfl
     refine Zel ?_
     iterate 2 refine Zl ?_
     refine Ze ?_; refine Zc ?_
     refine Zau rfl (fun hc6 => ?_) (fun hc6 => ?_)
     ·replace hc6 := nT hc6
      simp only [List.get_eq_getElem] at hc6
      refine Zj ?_; refine Za (l := [0]) rfl ?_; refine Zd ?_; refine Ze ?_; refine Zc ?_; refine Zak ?_; refine Zbj ?_
      iterate 2 refine Zba ?_
      refine Zbj ?_; refine Zba ?_
      refine Zaj (.inr rfl) (.tmp rfl .nil) (fun w hw => ?_)
      refine ⟨_, rfl, (hw.c), ?_⟩
      clear hw
      show _ = Value.bool (decide (WtsOk (wtl Zg) ∧ (0 ≤ Zaf ∧ Zaf ≤ 999) ∧ IsSt (pls Zh)))
      refine congrArg Value.bool (decide_eq_false (fun h9 => ?_)).symm
      obtain ⟨_, g1, g2⟩ := (wts_take (s := wtl Zg) (k := k) (by rw [Zcs]; omega)).1 (wts_pre h9.1 (k + 1))
      rw [hpk] at g1
      (have h0 : 0 < k := (by omega); have h7 := g2 h0; have h8 := e9 h0; rw [hpk, hp9 h0] at h7; simp_all [WaitV.pl]; done)
     ·replace hc6 := nF hc6
      simp only [List.get_eq_getElem] at hc6
      refine Zax ?_; refine Zde ?_; refine Zc ?_; refine Za (l := [0, 1]) rfl ?_; refine Zcc rfl rfl rfl rfl rfl (by exact Zbf (by decide) (by omega)) rfl ?_; refine Zf ?_; refine Ze ?_; refine Zda (a' := [(8, _)]) (k + 1) (.cons (k := 8) rfl (.cons (k := 7) rfl (.cons (k := 6) rfl (.cons (k := 2) rfl (.cons (k := 1) rfl (.nil)))))) (fun w hw => by first | exact hw | exact hw.c) ?_ ?_
      ·refine ⟨rfl, by omega, ?_⟩
       (rw [wts_take (by rw [Zcs]; omega)])
       refine ⟨hI, by rw [hpk]; assumption, fun h0 => ?_⟩
       rw [hpk, hp9 h0]
       (have h8 := e9 h0; simp_all [WaitV.pl]; done)
      ·omega
    ·replace hc5 := dF hc5
     iterate 11 refine Zz ?_
     iterate 2 refine Zl ?_
     refine Ze ?_; refine Zc ?_; refine Zeu rfl ?_; refine Zax ?_; refine Zde ?_; refine Zc ?_; refine Za (l := [0, 1]) rfl ?_; refine Zcc rfl rfl rfl rfl rfl (by exact Zbf (by decide) (by omega)) rfl ?_; refine Zf ?_; refine Ze ?_; refine Zda (a' := [(8, _)]) (k + 1) (.cons (k := 8) rfl (.cons (k := 7) rfl (.cons (k := 6) rfl (.cons (k := 2) rfl (.cons (k := 1) rfl (.nil)))))) (fun w hw => by first | exact hw | exact hw.c) ?_ ?_
     ·refine ⟨rfl, by omega, ?_⟩
      (rw [wts_take (by rw [Zcs]; omega)])
      refine ⟨hI, by rw [hpk]; assumption, fun h0 => ?_⟩
      rw [hpk, hp9 h0]
      omega
     ·omega
  ·replace hc2 := dF hc2
   refine Zcm ?_
   iterate 2 refine Zcd ?_
   refine Zdl ?_; refine Zc ?_; refine Y_pk [2, 1] ?_; refine Zj ?_; refine Za (l := [0, 1, 2, 3, 4, 5, 6, 7, 8, 9, 10, 11, 12, 13]) rfl ?_; refine Zb F.foff26_0 ?_; refine Zi F.lay3 ?_; refine Zav ?_; refine Zf ?_
   refine Zag 37 rfl (fun hc7 => ?_) (fun hc7 => ?_)
   ·replace hc7 := dT hc7
    refine Zb F.foff26_0 ?_; refine Zi F.lay3 ?_; refine Zav ?_; refine Zl ?_; refine Zf ?_
    refine Zag 42 rfl (fun hc8 => ?_) (fun hc8 => ?_)
    ·replace hc8 := dT hc8
     refine Zb F.foff26_2 ?_; refine Zi F.lay23 ?_; refine X_fs rfl rfl F.ok38 rfl (StIs_ok _ ⟨Zr, Zq, Zh⟩ Zbw Zdq) rfl ?_
     rintro _ rfl
     refine Zl ?_; refine Zd ?_; refine Ze ?_; refine Zc ?_; refine Y_pk [2] ?_; refine Zak ?_
     refine Zaj (.inr rfl) (.tmp rfl .nil) (fun w hw => ?_)
     refine ⟨_, rfl, (hw.c), ?_⟩
     clear hw
     obtain rfl : k = Zg.length := by omega
     rw [List.take_of_length_le (by rw [Zcs]; omega)] at hI
     show _ = Value.bool (decide (WtsOk (wtl Zg) ∧ (0 ≤ Zaf ∧ Zaf ≤ 999) ∧ IsSt (pls Zh)))
     refine congrArg Value.bool ?_
     exact decide_eq_decide.2 ⟨fun h9 => ⟨hI, ⟨by omega, by omega⟩, h9⟩, fun h9 => h9.2.2⟩
    ·replace hc8 := dF hc8
     iterate 3 refine Zz ?_
     refine Zl ?_; refine Zd ?_; refine Ze ?_; refine Zc ?_; refine Y_pk [2] ?_; refine Zak ?_
     refine Zaj (.inr rfl) (.tmp rfl .nil) (fun w hw => ?_)
     refine ⟨_, rfl, (hw.c), ?_⟩
     clear hw
     obtain rfl : k = Zg.length := by omega
     rw [List.take_of_length_le (by rw [Zcs]; omega)] at hI
     show _ = Value.bool (decide (WtsOk (wtl Zg) ∧ (0 ≤ Zaf ∧ Zaf ≤ 999) ∧ IsSt (pls Zh)))
     refine congrArg Value.bool ?_
     exact (decide_eq_false (fun h9 => by obtain ⟨g1, g2, g3⟩ := h9; omega)).symm
   ·replace hc7 := dF hc7
    iterate 3 refine Zz ?_
    refine Zl ?_; refine Zf ?_
    iterate 3 refine Zz ?_
    refine Zl ?_; refine Zd ?_; refine Ze ?_; refine Zc ?_; refine Y_pk [2] ?_; refine Zak ?_
    refine Zaj (.inr rfl) (.tmp rfl .nil) (fun w hw => ?_)
    refine ⟨_, rfl, (hw.c), ?_⟩
    clear hw
    obtain rfl : k = Zg.length := by omega
    rw [List.take_of_length_le (by rw [Zcs]; omega)] at hI
    show _ = Value.bool (decide (WtsOk (wtl Zg) ∧ (0 ≤ Zaf ∧ Zaf ≤ 999) ∧ IsSt (pls Zh)))
    refine congrArg Value.bool ?_
    exact (decide_eq_false (fun h9 => by obtain ⟨g1, g2, g3⟩ := h9; omega)).symm
theorem rSIs_ok (M : Mem) (s : ServerV) (hs0 : ServerV.ok M s) : Fs Tryz.prog 15 [s.enc] M (fun v => v = Value.bool (decide (IsSrv s.pl))) := by
  obtain ⟨Zaf, Zx, ⟨Zr, Zq, Zh⟩, ⟨Zp, Zo, Zg⟩, Zw⟩ := s
  have Zbw : SlK M HeldV.segs 24 ⟨Zr, Zq, Zh⟩ := hs0.h0
  have Zfr : SlM M Zr (Zh.map HeldV.segs) 24 := Zbw.h1
  have n_s_store : (Zh.map HeldV.segs).length = Zh.length := List.length_map ..
  have m_s_store : Zh.length ≤ 9223372036854775807 := Zbw.h2
  have c_s_store : Zh.length ≤ Zq := Zbw.h3
  have Zdq : ∀ y ∈ Zh, HeldV.ok M y := hs0.h1
  have Zbz : SlK M WaitV.segs 28 ⟨Zp, Zo, Zg⟩ := hs0.h2
  have Zfn : SlM M Zp (Zg.map WaitV.segs) 28 := Zbz.h1
  have n_s_waits : (Zg.map WaitV.segs).length = Zg.length := List.length_map ..
  have m_s_waits : Zg.length ≤ 9223372036854775807 := Zbz.h2
  have c_s_waits : Zg.length ≤ Zo := Zbz.h3
  have Zdp : ∀ y ∈ Zg, WaitV.ok M y := hs0.h3
  refine Zci Tryz.func15 rfl Tryz.ntmps15 rfl ?_; intro H
  refine Zj ?_; refine Za (l := [0, 1]) rfl ?_
  refine Zcz ?_; intro b1
  refine Zd ?_; refine Ze ?_; refine Zc ?_; refine Y_pk [2, 1] ?_
  iterate 2 refine Zj ?_
  refine Za (l := [0]) rfl ?_; refine Zd ?_; refine Ze ?_; refine Zc ?_; refine Zbe ?_; refine Y_pk [3, 2, 1] ?_; refine Zed (.succ .zero) (fun (k : Nat) z => z = [(3, .int .i64 (k : Int))] ∧ k ≤ Zg.length ∧ (WtsOk ((wtl Zg).take k))) (fun k => Zg.length - k) (0) (⟨rfl, by omega, by (exact ⟨fun m hm => by simp at hm, by simp⟩)⟩) ?_
  rintro k _ ⟨rfl, hk, hI⟩
  iterate 2 refine Zj ?_
  refine Za (l := [0, 1, 2, 3, 4]) rfl ?_; refine Zf ?_; refine Zb F.foff26_3 ?_; refine Zi F.lay24 ?_; refine Zbb F.elem24 ?_; refine Zav ?_; refine Ze ?_; refine Zc ?_
  refine Zau rfl (fun hc2 => ?_) (fun hc2 => ?_)
  ·replace hc2 := dT hc2
   refine Zax ?_; refine Zc ?_; refine Zj ?_; refine Zbe ?_; refine Zj ?_
   have hpk : (wtl Zg)[k]'(by rw [Zcs]; omega) = WaitV.pl Zg[k] := by simp [wtl]
   have hp9 : ∀ h : 0 < k, (wtl Zg)[k - 1]'(by rw [Zcs]; omega) = WaitV.pl Zg[k - 1] := fun h => by simp [wtl]
   have e9 : ∀ h0 : 0 < k, Zg[((k : Int) - 1).toNat]'(by omega) = Zg[k - 1]'(by omega) := fun h0 => by congr 1; omega
   refine Zar (l := [0, 1, 2, 3, 4, 5, 6, 7, 8, 9, 10, 11, 12, 13, 14, 15, 16, 17, 18, 19, 20, 21, 22, 23, 24, 25, 26, 27]) #[0, 1, 0, 7, 15, 31, 63, 127, 255, 511, 1023, 2047, 4095, 2047, 10239, 32767, 65535, 131071, 2047, 264191, 2047, 1837055, 3934207, 8128511, 16777215, 33554431, 67108863, 134217727] _ rfl (by kernel_rfl) (by kernel_rfl) St.drawn (fun _ h => h) ?_; refine Zb F.foff26_3 ?_; refine Zi F.lay24 ?_; refine Zf ?_; refine Zaa rfl rfl rfl rfl F.elem24 (by rfl) (by omega) (by exact SlM.plain (by assumption) (by (simp; omega))) rfl ?_; refine Zay rfl rfl rfl (by assumption) (by exact Zbl (by omega)) F.lay54 rfl rfl rfl ?_; refine X_fs rfl rfl F.ok39 rfl (rWait_ok _ Zg[k] (Zdp _ (List.getElem_mem (by omega)))) rfl ?_
   rintro _ rfl
   refine Zel ?_; refine Zf ?_
   refine Zag 18 rfl (fun hc3 => ?_) (fun hc3 => ?_)
   ·replace hc3 := nT hc3
    iterate 19 refine Zz ?_
    refine Zl ?_; refine Ze ?_; refine Zc ?_; refine Zcy rfl ?_; refine Zj ?_; refine Za (l := [0]) rfl ?_; refine Zd ?_; refine Ze ?_; refine Zc ?_; refine Zak ?_; refine Zbj ?_
    iterate 2 refine Zba ?_
    refine Zbj ?_; refine Zba ?_
    refine Zaj (.inr rfl) (.tmp rfl .nil) (fun w hw => ?_)
    refine ⟨_, rfl, (hw.c), ?_⟩
    clear hw
    show _ = Value.bool (decide (WtsOk (wtl Zg) ∧ (0 ≤ Zaf ∧ Zaf ≤ 999) ∧ IsSt (pls Zh)))
    refine congrArg Value.bool (decide_eq_false (fun h9 => ?_)).symm
    obtain ⟨_, g1, g2⟩ := (wts_take (s := wtl Zg) (k := k) (by rw [Zcs]; omega)).1 (wts_pre h9.1 (k + 1))
    rw [hpk] at g1
    contradiction
   ·replace hc3 := nF hc3
    refine Zf ?_; refine Zav ?_; refine Zf ?_
    refine Zag 21 rfl (fun hc4 => ?_) (fun hc4 => ?_)
    ·replace hc4 := dT hc4
     refine Zb F.foff26_3 ?_; refine Zi F.lay24 ?_; refine Zf ?_; refine Zcc rfl rfl rfl rfl rfl (by exact Zbf (by decide) (by omega)) rfl ?_; refine Zaa rfl rfl rfl rfl F.elem24 (by exact (Int.toNat_of_nonneg (by omega)).symm) (by omega) (by exact SlM.plain (by assumption) (by (simp; omega))) rfl ?_; refine Zaq rfl rfl rfl (by exact SlM.plain (by assumption) (by (simp; omega))) F.foff54_0 rfl ?_; refine Zay rfl rfl rfl (by assumption) (by exact Zbl (by omega)) F.lay29 rfl rfl rfl ?_; refine Zb F.foff26_3 ?_; refine Zi F.lay24 ?_; refine Zf ?_; refine Zaa rfl rfl rfl rfl F.elem24 (by rfl) (by omega) (by exact SlM.plain (by assumption) (by (simp; omega))) rfl ?_; refine Zaq rfl rfl rfl (by exact SlM.plain (by assumption) (by (simp; omega))) F.foff54_0 rfl ?_; refine Zay rfl rfl rfl (by assumption) (by exact Zbl (by omega)) F.lay29 rfl rfl rfl ?_
     refine X_fs rfl rfl F.ok40 rfl (rLess_ok _ _ _) rfl ?_
     rintro _ rfl
     refine Zel ?_
     iterate 2 refine Zl ?_
     refine Ze ?_; refine Zc ?_
     refine Zau rfl (fun hc5 => ?_) (fun hc5 => ?_)
     ·replace hc5 := nT hc5
      simp only [List.get_eq_getElem] at hc5
      refine Zj ?_; refine Za (l := [0]) rfl ?_; refine Zd ?_; refine Ze ?_; refine Zc ?_; refine Zak ?_; refine Zbj ?_
      iterate 2 refine Zba ?_
      refine Zbj ?_; refine Zba ?_
      refine Zaj (.inr rfl) (.tmp rfl .nil) (fun w hw => ?_)
      refine ⟨_, rfl, (hw.c), ?_⟩
      clear hw
      show _ = Value.bool (decide (WtsOk (wtl Zg) ∧ (0 ≤ Zaf ∧ Zaf ≤ 999) ∧ IsSt (pls Zh)))
      refine congrArg Value.bool (decide_eq_false (fun h9 => ?_)).symm
      obtain ⟨_, g1, g2⟩ := (wts_take (s := wtl Zg) (k := k) (by rw [Zcs]; omega)).1 (wts_pre h9.1 (k + 1))
      rw [hpk] at g1
      (have h0 : 0 < k := (by omega); have h7 := g2 h0; have h8 := e9 h0; rw [hpk, hp9 h0] at h7; simp_all [WaitV.pl]; done)
     ·replace hc5 := nF hc5
      simp only [List.get_eq_getElem] at hc5
      refine Zax ?_; refine Zde ?_; refine Zc ?_; refine Za (l := [0, 1, 2]) rfl ?_; refine Zf ?_; refine Zcc rfl rfl rfl rfl rfl (by exact Zbf (by decide) (by omega)) rfl ?_; refine Zd ?_; refine Ze ?_; refine Zda (a' := [(3, _)]) (k + 1) (.cons (k := 3) rfl (.cons (k := 2) rfl (.cons (k := 1) rfl (.nil)))) (fun w hw => by first | exact hw | exact hw.c) ?_ ?_
      ·refine ⟨rfl, by omega, ?_⟩
       (rw [wts_take (by rw [Zcs]; omega)])
       refine ⟨hI, by rw [hpk]; assumption, fun h0 => ?_⟩
       rw [hpk, hp9 h0]
       (have h8 := e9 h0; simp_all [WaitV.pl]; done)
      ·omega
    ·replace hc4 := dF hc4
     iterate 15 refine Zz ?_
     iterate 2 refine Zl ?_
     refine Ze ?_; refine Zc ?_; refine Zeu rfl ?_; refine Zax ?_; refine Zde ?_; refine Zc ?_; refine Za (l := [0, 1, 2]) rfl ?_; refine Zf ?_; refine Zcc rfl rfl rfl rfl rfl (by exact Zbf (by decide) (by omega)) rfl ?_; refine Zd ?_; refine Ze ?_; refine Zda (a' := [(3, _)]) (k + 1) (.cons (k := 3) rfl (.cons (k := 2) rfl (.cons (k := 1) rfl (.nil)))) (fun w hw => by first | exact hw | exact hw.c) ?_ ?_
     ·refine ⟨rfl, by omega, ?_⟩
      (rw [wts_take (by rw [Zcs]; omega)])
      refine ⟨hI, by rw [hpk]; assumption, fun h0 => ?_⟩
      rw [hpk, hp9 h0]
      omega
     ·omega
  ·replace hc2 := dF hc2
   refine Zcm ?_
   iterate 2 refine Zcd ?_
   refine Zdl ?_; refine Zc ?_; refine Y_pk [2, 1] ?_; refine Zj ?_; refine Za (l := [0, 1, 2, 3, 4, 5, 6, 7, 8, 9, 10, 11, 12, 13]) rfl ?_; refine Zb F.foff26_0 ?_; refine Zi F.lay3 ?_; refine Zav ?_; refine Zf ?_
   refine Zag 42 rfl (fun hc6 => ?_) (fun hc6 => ?_)
   ·replace hc6 := dT hc6
    refine Zb F.foff26_0 ?_; refine Zi F.lay3 ?_; refine Zav ?_; refine Zl ?_; refine Zf ?_
    refine Zag 47 rfl (fun hc7 => ?_) (fun hc7 => ?_)
    ·replace hc7 := dT hc7
     refine Zb F.foff26_2 ?_; refine Zi F.lay23 ?_; refine X_fs rfl rfl F.ok20 rfl (rStIs_ok _ ⟨Zr, Zq, Zh⟩ Zbw Zdq) rfl ?_
     rintro _ rfl
     refine Zl ?_; refine Zd ?_; refine Ze ?_; refine Zc ?_; refine Y_pk [2] ?_; refine Zak ?_
     refine Zaj (.inr rfl) (.tmp rfl .nil) (fun w hw => ?_)
     refine ⟨_, rfl, (hw.c), ?_⟩
     clear hw
     obtain rfl : k = Zg.length := by omega
     rw [List.take_of_length_le (by rw [Zcs]; omega)] at hI
     show _ = Value.bool (decide (WtsOk (wtl Zg) ∧ (0 ≤ Zaf ∧ Zaf ≤ 999) ∧ IsSt (pls Zh)))
     refine congrArg Value.bool ?_
     exact decide_eq_decide.2 ⟨fun h9 => ⟨hI, ⟨by omega, by omega⟩, h9⟩, fun h9 => h9.2.2⟩
    ·replace hc7 := dF hc7
     iterate 3 refine Zz ?_
     refine Zl ?_; refine Zd ?_; refine Ze ?_; refine Zc ?_; refine Y_pk [2] ?_; refine Zak ?_
     refine Zaj (.inr rfl) (.tmp rfl .nil) (fun w hw => ?_)
     refine ⟨_, rfl, (hw.c), ?_⟩
     clear hw
     obtain rfl : k = Zg.length := by omega
     rw [List.take_of_length_le (by rw [Zcs]; omega)] at hI
     show _ = Value.bool (decide (WtsOk (wtl Zg) ∧ (0 ≤ Zaf ∧ Zaf ≤ 999) ∧ IsSt (pls Zh)))
     refine congrArg Value.bool ?_
     exact (decide_eq_false (fun h9 => by obtain ⟨g1, g2, g3⟩ := h9; omega)).symm
   ·replace hc6 := dF hc6
    iterate 3 refine Zz ?_
    refine Zl ?_; refine Zf ?_
    iterate 3 refine Zz ?_
    refine Zl ?_; refine Zd ?_; refine Ze ?_; refine Zc ?_; refine Y_pk [2] ?_; refine Zak ?_
    refine Zaj (.inr rfl) (.tmp rfl .nil) (fun w hw => ?_)
    refine ⟨_, rfl, (hw.c), ?_⟩
    clear hw
    obtain rfl : k = Zg.length := by omega
    rw [List.take_of_length_le (by rw [Zcs]; omega)] at hI
    show _ = Value.bool (decide (WtsOk (wtl Zg) ∧ (0 ≤ Zaf ∧ Zaf ≤ 999) ∧ IsSt (pls Zh)))
    refine congrArg Value.bool ?_
    exact (decide_eq_false (fun h9 => by obtain ⟨g1, g2, g3⟩ := h9; omega)).symm
end Go.Proofs.YtpkeilhilpogiaaGreat
namespace Go.Proofs.YtpkeilhilpogiaaGreat
open Go.Esp
theorem F.bld39 : Bld Tryz.prog 39 [[.one (.int .i64 0)], [.one (.int .u64 0)], [idSeg 0], [.one (.int .i64 0), .one (.int .u64 0), .one (.int .i64 0), .one (.int .u64 0), .one (.string ⟨#[]⟩)], [.one (.int .i64 0), .one (.int .u64 0), .one (.bool false), .one (.string ⟨#[]⟩)], [.one (.int .u64 0)], [.one (.int .u64 0), .one (.bool false), .one (.string ⟨#[]⟩), .one (.slice none 0 0)]] := by rw [idSeg0]; exact ⟨by kernel_rfl, by kernel_rfl⟩
theorem F.bld51 : Bld Tryz.prog 51 [[.one (.int .i64 0)], [.one (.int .i64 0), .one (.int .u64 0), idSeg 0, .one (.int .i64 0), .one (.int .u64 0), .one (.int .i64 0), .one (.int .u64 0), .one (.string ⟨#[]⟩), .one (.int .i64 0), .one (.int .u64 0), .one (.bool false), .one (.string ⟨#[]⟩), .one (.int .u64 0), .one (.int .u64 0), .one (.bool false), .one (.string ⟨#[]⟩), .one (.slice none 0 0)]] := by rw [idSeg0]; exact ⟨by kernel_rfl, by kernel_rfl⟩
theorem F.elem43 : slOf Tryz.prog 43 = some (51, 37, 200) := by kernel_rfl
theorem F.foff26_1 : foff Tryz.prog 26 1 = some 1 := by kernel_rfl
theorem F.lay39 : lay Tryz.prog 39 = some (true, 36) := by kernel_rfl
theorem F.ok31 : okFn Tryz.prog 31 = true := by kernel_rfl
theorem F.zero39 : zeroOf Tryz.prog 39 = some (aggV [.one (.int .i64 0), .one (.int .u64 0), idSeg 0, .one (.int .i64 0), .one (.int .u64 0), .one (.int .i64 0), .one (.int .u64 0), .one (.string ⟨#[]⟩), .one (.int .i64 0), .one (.int .u64 0), .one (.bool false), .one (.string ⟨#[]⟩), .one (.int .u64 0), .one (.int .u64 0), .one (.bool false), .one (.string ⟨#[]⟩), .one (.slice none 0 0)]) := by rw [idSeg0]; kernel_rfl
theorem F.zero51 : zeroOf Tryz.prog 51 = some (aggV [.one (.int .i64 0), .one (.int .i64 0), .one (.int .u64 0), idSeg 0, .one (.int .i64 0), .one (.int .u64 0), .one (.int .i64 0), .one (.int .u64 0), .one (.string ⟨#[]⟩), .one (.int .i64 0), .one (.int .u64 0), .one (.bool false), .one (.string ⟨#[]⟩), .one (.int .u64 0), .one (.int .u64 0), .one (.bool false), .one (.string ⟨#[]⟩), .one (.slice none 0 0)]) := by rw [idSeg0]; kernel_rfl
theorem rreply_ok (M : Mem) (s : ServerV) (client : Int) (req : Int) (a : AnswerV) (hs0 : ServerV.ok M s) (hcl : 0 ≤ client ∧ client ≤ 63) : Esp.Fn Tryz.prog 70 [s.enc, .int .i64 client, .int .u64 req, a.enc] M (fun M' v => PstsE M' v [replyR s.pl client req a]) := by
  obtain ⟨Zaf, Zx, ⟨Zr, Zq, Zh⟩, ⟨Zp, Zo, Zg⟩, Zw⟩ := s
  obtain ⟨a_code, Zcw, Zfw, Zfv⟩ := a
  have Zbw : SlK M HeldV.segs 24 ⟨Zr, Zq, Zh⟩ := hs0.h0
  have Zfr : SlM M Zr (Zh.map HeldV.segs) 24 := Zbw.h1
  have n_s_store : (Zh.map HeldV.segs).length = Zh.length := List.length_map ..
  have m_s_store : Zh.length ≤ 9223372036854775807 := Zbw.h2
  have c_s_store : Zh.length ≤ Zq := Zbw.h3
  have Zdq : ∀ y ∈ Zh, HeldV.ok M y := hs0.h1
  have Zbz : SlK M WaitV.segs 28 ⟨Zp, Zo, Zg⟩ := hs0.h2
  have Zfn : SlM M Zp (Zg.map WaitV.segs) 28 := Zbz.h1
  have n_s_waits : (Zg.map WaitV.segs).length = Zg.length := List.length_map ..
  have m_s_waits : Zg.length ≤ 9223372036854775807 := Zbz.h2
  have c_s_waits : Zg.length ≤ Zo := Zbz.h3
  have Zdp : ∀ y ∈ Zg, WaitV.ok M y := hs0.h3
  refine Zek Tryz.func70 rfl Tryz.ntmps70 rfl ?_; intro H
  refine Zj ?_; refine Za (l := [0, 1, 2]) rfl ?_
  refine Zcz ?_; intro b1
  refine Zcz ?_; intro b2
  refine Zd ?_; refine Ze ?_; refine Zc ?_; refine Y_pk [8, 7, 4, 1, 2] ?_; refine Zj ?_; refine Za (l := [0, 1, 2, 3, 4, 5, 6, 7, 8]) rfl ?_; refine Zb F.foff26_1 ?_; refine Zi F.lay22 ?_
  iterate 2 refine Zf ?_
  refine Zbv rfl rfl F.bld31 (.cons rfl (by constructor) (.cons rfl (by constructor) .nil)) rfl rfl ?_; refine Zi F.lay34 ?_; refine Zbv rfl rfl F.bld39 (.cons rfl (by constructor) (.cons rfl (by constructor) (.cons rfl (by constructor) (.cons rfl (by constructor) .nil)))) rfl rfl ?_
  refine Zby F.zero39 ?_; intro b3
  refine Zas F.lay39 ?_; refine Ze ?_; refine Zc ?_; refine Y_pk [9, 8, 1] ?_; refine Zj ?_; refine Za (l := [0, 1, 2, 3, 4, 5]) rfl ?_; refine Zf ?_; refine Zcc rfl rfl rfl rfl rfl (by exact Zbf (by decide) (by omega)) rfl ?_; refine Zi F.lay39 ?_; refine Zbv rfl rfl F.bld51 (.cons rfl (by constructor) (.cons rfl (by constructor) .nil)) rfl rfl ?_
  refine Zbt rfl rfl F.elem43 F.zero51 rfl rfl (.cons rfl (by constructor) .nil) rfl rfl (by simp only [List.map_cons, List.map_nil] <;> rfl) rfl ?_; intro b4 hob5
  refine Zd ?_; refine Ze ?_; refine Zc ?_; refine Y_pk [8] ?_; refine Zak ?_
  refine Zaj (.inr rfl) (.tmp rfl .nil) (fun w hw => ?_)
  obtain ⟨M9, j1, j2, j3⟩ := OSl.frz (H := H) (l := [(⟨1000 + client, ⟨2, Zx, 0, ⟨client, req, 0, 0, ⟨#[]⟩⟩, ⟨a_code, Zcw, Zfw, Zfv⟩, 0, CellV.zero⟩⟩ : PostV)]) (f := PostV.segs) (show OSl 51 37 _ _ ([(⟨1000 + client, ⟨2, Zx, 0, ⟨client, req, 0, 0, ⟨#[]⟩⟩, ⟨a_code, Zcw, Zfw, Zfv⟩, 0, CellV.zero⟩⟩ : PostV)].map PostV.segs) from hob5) (hw.c)
  exact ⟨_, M9, rfl, j1, j2, ⟨_, 1, [(⟨1000 + client, ⟨2, Zx, 0, ⟨client, req, 0, 0, ⟨#[]⟩⟩, ⟨a_code, Zcw, Zfw, Zfv⟩, 0, CellV.zero⟩⟩ : PostV)]⟩, rfl, rfl, j3, fun y hy => by obtain rfl := List.mem_singleton.1 hy; exact ⟨⟨CellV.zero_ok _⟩⟩⟩
theorem findX_no {l : List HeldV} {k : Plc} {c : CellV} (h : findX l k = (c, false)) : c = CellV.zero := by
  unfold findX at h
  split at h <;> cases h
  rfl
theorem rcopies_ok (M : Mem) (s : ServerV) (key : Plc) (serial : Int) (to : (Sl Int)) (hs0 : ServerV.ok M s) (hto1 : SlK M (oneI .i64) 1 to) (hb : to.l.length ≤ 1000) : Esp.Fn Tryz.prog 71 [s.enc, aggV [idSeg key], .int .u64 serial, Sl.val to] M (fun M' v => PstsE M' v (copiesP s.pl key serial to.l)) := by
  obtain ⟨Zaf, Zx, ⟨Zr, Zq, Zh⟩, ⟨Zp, Zo, Zg⟩, Zw⟩ := s
  obtain ⟨to_a, to_c, to_l⟩ := to
  have Zbw : SlK M HeldV.segs 24 ⟨Zr, Zq, Zh⟩ := hs0.h0
  have Zfr : SlM M Zr (Zh.map HeldV.segs) 24 := Zbw.h1
  have n_s_store : (Zh.map HeldV.segs).length = Zh.length := List.length_map ..
  have m_s_store : Zh.length ≤ 9223372036854775807 := Zbw.h2
  have c_s_store : Zh.length ≤ Zq := Zbw.h3
  have Zdq : ∀ y ∈ Zh, HeldV.ok M y := hs0.h1
  have Zbz : SlK M WaitV.segs 28 ⟨Zp, Zo, Zg⟩ := hs0.h2
  have Zfn : SlM M Zp (Zg.map WaitV.segs) 28 := Zbz.h1
  have n_s_waits : (Zg.map WaitV.segs).length = Zg.length := List.length_map ..
  have m_s_waits : Zg.length ≤ 9223372036854775807 := Zbz.h2
  have c_s_waits : Zg.length ≤ Zo := Zbz.h3
  have Zdp : ∀ y ∈ Zg, WaitV.ok M y := hs0.h3
  have k_to : SlK M (oneI .i64) 1 ⟨to_a, to_c, to_l⟩ := hto1
  have s_to : SlM M to_a (to_l.map (oneI .i64)) 1 := k_to.h1
  have n_to : (to_l.map (oneI .i64)).length = to_l.length := List.length_map ..
  have m_to : to_l.length ≤ 9223372036854775807 := k_to.h2
  have c_to : to_l.length ≤ to_c := k_to.h3
  simp only at hb
  refine Zek Tryz.func71 rfl Tryz.ntmps71 rfl ?_; intro H
  refine Zj ?_; refine Za (l := [0, 1, 2]) rfl ?_
  refine Zcz ?_; intro b1
  refine Zcz ?_; intro b2
  refine Zd ?_; refine Ze ?_; refine Zc ?_; refine Y_pk [8, 5, 4, 2, 3] ?_; refine Zj ?_; refine Za (l := [0, 1, 2, 3, 4, 5, 6, 7, 8, 9]) rfl ?_; refine Zb F.foff26_2 ?_; refine Zi F.lay23 ?_; refine Zi F.lay29 ?_; refine X_fs rfl rfl F.ok31 rfl (rFind_ok _ ⟨Zr, Zq, Zh⟩ key Zbw Zdq) rfl ?_
  rintro _ hv
  obtain ⟨⟨xc, xb⟩, hx⟩ : ∃ r, findX Zh key = r := ⟨_, rfl⟩
  replace hv : _ = findXv (findX Zh key) := hv
  rw [hx] at hv
  subst hv
  have hpl := findX_pl Zh key
  rw [hx] at hpl
  have okx : CellV.ok M xc := by
   cases xb
   ·have h9 := findX_no hx
    subst h9; exact CellV.zero_ok M
   ·obtain ⟨y9, g1, g2, g3⟩ := findX_mem (l := Zh) (k := key) (by rw [hx])
    rw [hx] at g3
    simp only at g3
    rw [← g3]; exact (Zdq y9 g1).h0
  obtain ⟨x_v, x_h, x_s, ⟨x_a, x_c, x_l⟩⟩ := xc
  refine Zf ?_
  iterate 2 refine Zcf ?_
  refine Zby F.zero37 ?_; intro b3
  refine Zas F.lay37 ?_; refine Zd ?_; refine Ze ?_; refine Zc ?_; refine Y_pk [9, 8, 5, 4, 2, 3] ?_; refine Zj ?_; refine Za (l := [0]) rfl ?_; refine Zd ?_; refine Ze ?_; refine Zc ?_
  iterate 2 refine Zj ?_
  refine Za (l := [0]) rfl ?_; refine Zd ?_; refine Ze ?_; refine Zc ?_; refine Zbe ?_; refine Y_pk [12, 11, 9, 8, 5, 4, 2, 3] ?_; refine Zeo (Hin := []) (.succ (.succ .zero)) (by repeat first | exact Rem.here _ | exact Rem.two | apply Rem.skip | apply Rem.over) (fun (k : Nat) M1 h1 z => ∃ v, M1 = M ∧ z = [(12, .int .i64 (k : Int)), (11, v)] ∧ k ≤ to_l.length ∧ OSl 51 37 v h1 (((to_l.take (k)).map (fun t : Int => (⟨t, ⟨3, Zx, key, OpV.zero, AnswerV.zero, serial, ⟨x_v, x_h, x_s, ⟨x_a, x_c, x_l⟩⟩⟩⟩ : PostV))).map PostV.segs)) (fun k => to_l.length - k) (0) (⟨_, rfl, rfl, by omega, OSl.nil⟩) ?_
  rintro k M1 h1 z hm1 ⟨v0, hM1, rfl, hk9, ho⟩
  subst hM1
  obtain ⟨ad0, cp0, rfl⟩ := ho.val
  have hml : (((to_l.take (k)).map (fun t : Int => (⟨t, ⟨3, Zx, key, OpV.zero, AnswerV.zero, serial, ⟨x_v, x_h, x_s, ⟨x_a, x_c, x_l⟩⟩⟩⟩ : PostV))).map PostV.segs).length = k := by simp; omega
  rw [hml] at ho ⊢
  iterate 2 refine Zj ?_
  refine Za (l := [0, 1, 2, 3]) rfl ?_
  iterate 2 refine Zf ?_
  refine Zbb F.elem52 ?_; refine Zav ?_; refine Ze ?_; refine Zc ?_
  refine Zau rfl (fun hc4 => ?_) (fun hc4 => ?_)
  ·replace hc4 := dT hc4
   refine Zax ?_; refine Zc ?_; refine Zj ?_; refine Zbe ?_; refine Zar (l := [0, 1, 2, 3, 4, 5, 6, 7, 8, 9, 10, 11, 12, 13, 14]) #[0, 0, 0, 6, 14, 0, 32, 0, 0, 0, 992, 2046, 4094, 8191, 16383] _ rfl (by kernel_rfl) (by kernel_rfl) St.drawn (fun _ h => h) ?_
   iterate 3 refine Zf ?_
   refine Zaa rfl rfl rfl rfl F.elem52 (by rfl) (by omega) (by exact SlM.plain (by assumption) (by (simp; omega))) rfl ?_; refine Zay rfl rfl rfl (by assumption) (by exact Zbl (by omega)) F.lay3 rfl rfl rfl ?_; refine Zb F.foff26_1 ?_; refine Zi F.lay22 ?_; refine Zi F.lay29 ?_; refine Zf ?_; refine Zi F.lay37 ?_; refine Zbv rfl rfl F.bld39 (.cons rfl (by constructor) (.cons rfl (by constructor) (.cons rfl (by constructor) (.cons rfl (by constructor) (.cons rfl (by constructor) .nil))))) rfl rfl ?_; refine Zbv rfl rfl F.bld51 (.cons rfl (by constructor) (.cons rfl (by constructor) .nil)) rfl rfl ?_; refine Zgq 37 rfl (show _ = aggV (PostV.segs ((fun t : Int => (⟨t, ⟨3, Zx, key, OpV.zero, AnswerV.zero, serial, ⟨x_v, x_h, x_s, ⟨x_a, x_c, x_l⟩⟩⟩⟩ : PostV)) to_l[k])) from rfl) ?_
   refine Zbt rfl rfl F.elem43 F.zero51 rfl rfl (.cons rfl (by constructor) .nil) rfl rfl (by simp only [List.map_cons, List.map_nil] <;> rfl) rfl ?_; intro b5 hob6
   refine Zdn (m := 1000000) rfl rfl rfl rfl rfl F.elem43 F.zero51 (by exact Zei rfl) rfl (by assumption) (by repeat first | exact Rem.here _ | exact Rem.two | apply Rem.skip | apply Rem.over) (Src.own hob6.lens (by (refine Zdy ?_; (repeat (first | exact Zbp | refine Zcb ?_ | (refine Zam ?_ ?_; rfl))); done)) rfl (by repeat first | exact List.Mem.head _ | refine List.Mem.tail _ ?_ | refine List.mem_append_right _ ?_)) (by (simp; omega)) (by decide) rfl ?_; intro v9 hs8 ho7; obtain ⟨adv9, cpv9, rfl⟩ := ho7.val
   refine Zd ?_; refine Ze ?_; refine Zde ?_; refine Zc ?_; refine Za (l := [0, 1, 2]) rfl ?_; refine Zf ?_; refine Zcc rfl rfl rfl rfl rfl (by exact Zbf (by decide) (by omega)) rfl ?_; refine Zd ?_; refine Ze ?_; refine Zcr (a' := [(12, _), (11, _)]) (k + 1) (hs8) (.cons (k := 12) rfl (.cons (k := 11) rfl (.cons (k := 9) rfl (.cons (k := 8) rfl (.cons (k := 5) rfl (.cons (k := 4) rfl (.cons (k := 2) rfl (.cons (k := 3) rfl (.nil))))))))) (by exact Mem.le.refl _) (fun w hw => by first | exact hw | exact hw.c) ?_ ?_
   ·refine ⟨_, rfl, rfl, by omega, ?_⟩
    rw [List.take_add_one, List.getElem?_eq_getElem (show k < to_l.length by omega)]
    simp only [Option.toList_some, List.map_append, List.map_cons, List.map_nil]
    exact ho7
   ·omega
  ·replace hc4 := dF hc4
   refine Zcm ?_
   iterate 2 refine Zcd ?_
   refine Zdl ?_; refine Zc ?_; refine Y_pk [11, 8] ?_; refine Zj ?_; refine Za (l := [0, 1]) rfl ?_; refine Zf ?_; refine Zd ?_; refine Ze ?_; refine Zc ?_; refine Y_pk [8] ?_; refine Zak ?_
   refine Zaj (.inr rfl) (.tmp rfl .nil) (fun w hw => ?_)
   obtain rfl : k = to_l.length := by omega
   rw [List.take_length] at ho
   obtain ⟨M9, j1, j2, j3⟩ := OSl.frz (H := H) (l := to_l.map (fun t : Int => (⟨t, ⟨3, Zx, key, OpV.zero, AnswerV.zero, serial, ⟨x_v, x_h, x_s, ⟨x_a, x_c, x_l⟩⟩⟩⟩ : PostV))) (f := PostV.segs) ho (hw.c)
   refine ⟨_, M9, rfl, j1, j2, ⟨_, _, to_l.map (fun t : Int => (⟨t, ⟨3, Zx, key, OpV.zero, AnswerV.zero, serial, ⟨x_v, x_h, x_s, ⟨x_a, x_c, x_l⟩⟩⟩⟩ : PostV))⟩, by simp only [Sl.val, List.length_map]; rfl, ?_, j3, fun y hy => ?_⟩
   ·unfold pstl copiesP
    rw [List.map_map]
    refine List.map_congr_left fun t _ => ?_
    show Pst.mk t ⟨3, Zx, key, OpV.zero, AnswerV.zero, serial, _⟩ = Pst.mk t ⟨3, Zx, key, OpV.zero, AnswerV.zero, serial, (findP (pls Zh) key).1⟩
    rw [← hpl]
   ·obtain ⟨t, _, rfl⟩ := List.mem_map.1 hy
    exact ⟨⟨okx.mono j1⟩⟩
theorem rwait_ok (M : Mem) (ws : (Sl WaitV)) (w : WaitV) (hws0 : SlK M WaitV.segs 28 ws) (hws1 : ∀ y ∈ (ws).l, WaitV.ok M y) (hw2 : WaitV.ok M w) (hb : ws.l.length ≤ 1000) : Esp.Fn Tryz.prog 74 [Sl.val ws, w.enc] M (fun M' v => ∃ q : Sl WaitV, v = q.val ∧ wtl q.l = waitR (wtl ws.l) w.pl ∧ SlK M' WaitV.segs 28 q ∧ ∀ h ∈ q.l, WaitV.ok M' h) := by
  obtain ⟨ws_a, ws_c, ws_l⟩ := ws
  obtain ⟨Zev, Zbo, Zfh, ⟨Zat, Zaw, Zbn, Zaz⟩, Zcn, ⟨Zcl, Zck, Zac⟩⟩ := w
  have k_ws : SlK M WaitV.segs 28 ⟨ws_a, ws_c, ws_l⟩ := hws0
  have s_ws : SlM M ws_a (ws_l.map WaitV.segs) 28 := k_ws.h1
  have n_ws : (ws_l.map WaitV.segs).length = ws_l.length := List.length_map ..
  have m_ws : ws_l.length ≤ 9223372036854775807 := k_ws.h2
  have c_ws : ws_l.length ≤ ws_c := k_ws.h3
  have l_ws : ∀ y ∈ ws_l, WaitV.ok M y := hws1
  have Zeq : SlK M (oneI .i64) 1 ⟨Zcl, Zck, Zac⟩ := hw2.h0
  have s_w_need : SlM M Zcl (Zac.map (oneI .i64)) 1 := Zeq.h1
  have n_w_need : (Zac.map (oneI .i64)).length = Zac.length := List.length_map ..
  have m_w_need : Zac.length ≤ 9223372036854775807 := Zeq.h2
  have c_w_need : Zac.length ≤ Zck := Zeq.h3
  simp only at hb
  refine Zek Tryz.func74 rfl Tryz.ntmps74 rfl ?_; intro H
  refine Zj ?_; refine Za (l := [0, 1]) rfl ?_
  refine Zcz ?_; intro b1
  refine Zd ?_; refine Ze ?_; refine Zc ?_; refine Y_pk [4, 3, 0] ?_; refine Zj ?_; refine Za (l := [0]) rfl ?_; refine Zd ?_; refine Ze ?_; refine Zc ?_; refine Zj ?_; refine Za (l := [0]) rfl ?_; refine Zd ?_; refine Ze ?_; refine Zc ?_; refine Zj ?_; refine Zbe ?_; refine Y_pk [6, 5, 4, 3, 0] ?_; refine Zeo (Hin := []) (.succ (.succ .zero)) (by repeat first | exact Rem.here _ | exact Rem.two | apply Rem.skip | apply Rem.over) (fun (k : Nat) M1 h1 z => ∃ v, M1 = M ∧ z = [(6, .int .i64 (k : Int)), (5, v)] ∧ k ≤ ws_l.length ∧ (∀ j (h : j < ws_l.length), j < k → LessP ws_l[j].key Zev) ∧ OSl 54 28 v h1 ((ws_l.take (k)).map WaitV.segs)) (fun k => ws_l.length - k) (0) (⟨_, rfl, rfl, by omega, fun j h2 hj => by omega, OSl.nil⟩) ?_
  rintro k M1 h1 z hm1 ⟨v0, hM1, rfl, hk9, hI, ho⟩
  subst hM1
  obtain ⟨ad0, cp0, rfl⟩ := ho.val
  have hml : ((ws_l.take (k)).map WaitV.segs).length = k := by simp; omega
  rw [hml] at ho ⊢
  iterate 2 refine Zj ?_
  refine Zar (l := [0, 1, 2, 3, 4, 5, 6, 7, 8, 9, 10, 11, 12, 13]) #[0, 0, 2, 7, 15, 31, 31, 127, 255, 511, 31, 1055, 4095, 8191] _ rfl (by kernel_rfl) (by kernel_rfl) St.drawn (fun _ h => h) ?_
  iterate 2 refine Zf ?_
  refine Zbb F.elem24 ?_; refine Zav ?_; refine Zf ?_
  refine Zag 11 rfl (fun hc2 => ?_) (fun hc2 => ?_)
  ·replace hc2 := dT hc2
   iterate 2 refine Zf ?_
   refine Zaa rfl rfl rfl rfl F.elem24 (by rfl) (by omega) (by exact SlM.plain (by assumption) (by (simp; omega))) rfl ?_; refine Zaq rfl rfl rfl (by exact SlM.plain (by assumption) (by (simp; omega))) F.foff54_0 rfl ?_; refine Zay rfl rfl rfl (by assumption) (by exact Zbl (by omega)) F.lay29 rfl rfl rfl ?_; refine Zb F.foff54_0 ?_; refine Zi F.lay29 ?_; refine X_fs rfl rfl F.ok40 rfl (rLess_ok _ _ _) rfl ?_
   rintro _ rfl
   refine Zl ?_; refine Ze ?_; refine Zc ?_
   refine Zau rfl (fun hc3 => ?_) (fun hc3 => ?_)
   ·replace hc3 := dT hc3
    simp only [List.get_eq_getElem] at hc3
    refine Zax ?_; refine Zc ?_; refine Zbe ?_; refine Zj ?_; refine Za (l := [0, 1, 2, 3, 4, 5, 6, 7]) rfl ?_
    iterate 3 refine Zf ?_
    refine Zaa rfl rfl rfl rfl F.elem24 (by rfl) (by omega) (by exact SlM.plain (by assumption) (by (simp; omega))) rfl ?_; refine Zay rfl rfl rfl (by assumption) (by exact Zbl (by omega)) F.lay54 rfl rfl rfl ?_
    refine Zbt rfl rfl F.elem24 F.zero54 rfl rfl (.cons rfl (by constructor) .nil) rfl rfl (by simp only [List.map_cons, List.map_nil] <;> rfl) rfl ?_; intro b4 hob5
    refine Zdn (m := 1000000) rfl rfl rfl rfl rfl F.elem24 F.zero54 (by exact Zei rfl) rfl (by assumption) (by repeat first | exact Rem.here _ | exact Rem.two | apply Rem.skip | apply Rem.over) (Src.own hob5.lens (by (refine Zdy ?_; (repeat (first | exact Zbp | refine Zcb ?_ | (refine Zam ?_ ?_; rfl))); done)) rfl (by repeat first | exact List.Mem.head _ | refine List.Mem.tail _ ?_ | refine List.mem_append_right _ ?_)) (by (simp; omega)) (by decide) rfl ?_; intro v8 hs7 ho6; obtain ⟨adv8, cpv8, rfl⟩ := ho6.val
    refine Zd ?_; refine Ze ?_; refine Zc ?_; refine Za (l := [0, 1, 2]) rfl ?_; refine Zf ?_; refine Zcc rfl rfl rfl rfl rfl (by exact Zbf (by decide) (by omega)) rfl ?_; refine Zd ?_; refine Ze ?_; refine Zde ?_; refine Zcr (a' := [(6, _), (5, _)]) (k + 1) (hs7) (.cons (k := 6) rfl (.cons (k := 5) rfl (.cons (k := 4) rfl (.cons (k := 3) rfl (.cons (k := 0) rfl (.nil)))))) (by exact Mem.le.refl _) (fun w hw => by first | exact hw | exact hw.c) ?_ ?_
    ·refine ⟨_, rfl, rfl, by omega, fun j h2 hj => ?_, ?_⟩
     ·rcases Nat.lt_or_ge j k with h9 | h9
      ·exact hI j h2 h9
      ·obtain rfl : j = k := by omega
       assumption
     ·rw [take_map_succ _ (by omega)]
      exact ho6
    ·omega
   ·replace hc3 := dF hc3
    simp only [List.get_eq_getElem] at hc3
    refine Zcm ?_
    iterate 2 refine Zcd ?_
    refine Zdl ?_; refine Zc ?_; refine Y_pk [6, 5, 4, 3, 0] ?_; refine Zj ?_
    have k_d0 := k_ws.drop k hk9
    refine Za (l := [0, 1, 2, 3, 4]) rfl ?_; refine Zf ?_; refine Zi F.lay54 ?_
    refine Zbt rfl rfl F.elem24 F.zero54 rfl rfl (.cons rfl (by constructor) .nil) rfl rfl (by simp only [List.map_cons, List.map_nil] <;> rfl) rfl ?_; intro b9 hob10
    refine Zdn (m := 1000000) rfl rfl rfl rfl rfl F.elem24 F.zero54 (by exact Zei rfl) rfl (by assumption) (by repeat first | exact Rem.here _ | exact Rem.two | apply Rem.skip | apply Rem.over) (Src.own hob10.lens (by (refine Zdy ?_; (repeat (first | exact Zbp | refine Zcb ?_ | (refine Zam ?_ ?_; rfl))); done)) rfl (by repeat first | exact List.Mem.head _ | refine List.Mem.tail _ ?_ | refine List.mem_append_right _ ?_)) (by (simp; omega)) (by decide) rfl ?_; intro v13 hs12 ho11; obtain ⟨adv13, cpv13, rfl⟩ := ho11.val
    refine Zd ?_; refine Ze ?_; refine Zc ?_; refine Y_pk [5, 6, 4, 0] ?_; refine Zj ?_; refine Za (l := [0, 1, 2, 3, 4, 5]) rfl ?_
    iterate 3 refine Zf ?_
    refine Zdw rfl rfl rfl (.some (k := k) rfl (by rfl)) .none .none F.elem24 (by simp only [Option.getD_none]; omega) (by simp only [Option.getD_some, Option.getD_none]; omega) (by simp only [Option.getD_some, Option.getD_none]; omega) (by simp) (pieceV_drop (l := ws_l) (k := k)) rfl ?_
    refine Zfk (m := 1000000) rfl rfl rfl rfl rfl F.elem24 F.zero54 (by exact Zei rfl) rfl (by assumption) (by repeat first | exact Rem.here _ | exact Rem.two | apply Rem.skip | apply Rem.over) (k_d0.h1) WaitV.flat (by (simp; omega)) (by decide) rfl ?_; intro v16 hs15 ho14; obtain ⟨adv16, cpv16, rfl⟩ := ho14.val
    refine Zd ?_; refine Ze ?_; refine Zc ?_; refine Y_pk [4] ?_; refine Zak ?_
    refine Zaj (.inr rfl) (.tmp rfl .nil) (fun w hw => ?_)
    have ho7 := (ho14).as9 (show _ = (ws_l.take k ++ (⟨Zev, Zbo, Zfh, ⟨Zat, Zaw, Zbn, Zaz⟩, Zcn, ⟨Zcl, Zck, Zac⟩⟩ : WaitV) :: ws_l.drop k).map WaitV.segs by simp <;> rfl)
    have hw9 : St _ (hs15 ++ H) w := hw.c
    obtain ⟨M9, s9, g1, g2, g3, g4, g5⟩ := ho7.freezeK hw9
    refine ⟨_, M9, rfl, g1, g2, s9, g3, ?_, g5, fun h hh => ?_⟩
    ·rw [g4, waitR_at (k := k) (by rw [Zcs]; show _ ≤ ws_l.length; omega) (fun j h2 hj => by rw [Zgi (by rw [Zcs] at h2; exact h2)]; exact hI j (by rw [Zcs] at h2; exact h2) hj) (fun h2 => by rw [Zgi (by rw [Zcs] at h2; exact h2)]; first | assumption | (exfalso; rw [Zcs] at h2; replace h2 : _ < ws_l.length := h2; omega))]
     unfold wtl; rw [List.map_append, List.map_cons, List.map_take, List.map_drop]
    ·rw [g4] at hh
     rcases List.mem_append.1 hh with hh | hh
     ·exact (l_ws h (List.mem_of_mem_take hh)).mono g1
     ·rcases List.mem_cons.1 hh with rfl | hh
      ·exact ⟨Zeq.mono g1⟩
      ·exact (l_ws h (List.mem_of_mem_drop hh)).mono g1
  ·replace hc2 := dF hc2
   iterate 8 refine Zz ?_
   refine Zl ?_; refine Ze ?_; refine Zc ?_; refine Zeu rfl ?_; refine Zcm ?_
   iterate 2 refine Zcd ?_
   refine Zdl ?_; refine Zc ?_; refine Y_pk [6, 5, 4, 3, 0] ?_; refine Zj ?_
   have k_d0 := k_ws.drop k hk9
   refine Za (l := [0, 1, 2, 3, 4]) rfl ?_; refine Zf ?_; refine Zi F.lay54 ?_
   refine Zbt rfl rfl F.elem24 F.zero54 rfl rfl (.cons rfl (by constructor) .nil) rfl rfl (by simp only [List.map_cons, List.map_nil] <;> rfl) rfl ?_; intro b17 hob18
   refine Zdn (m := 1000000) rfl rfl rfl rfl rfl F.elem24 F.zero54 (by exact Zei rfl) rfl (by assumption) (by repeat first | exact Rem.here _ | exact Rem.two | apply Rem.skip | apply Rem.over) (Src.own hob18.lens (by (refine Zdy ?_; (repeat (first | exact Zbp | refine Zcb ?_ | (refine Zam ?_ ?_; rfl))); done)) rfl (by repeat first | exact List.Mem.head _ | refine List.Mem.tail _ ?_ | refine List.mem_append_right _ ?_)) (by (simp; omega)) (by decide) rfl ?_; intro v21 hs20 ho19; obtain ⟨adv21, cpv21, rfl⟩ := ho19.val
   refine Zd ?_; refine Ze ?_; refine Zc ?_; refine Y_pk [5, 6, 4, 0] ?_; refine Zj ?_; refine Za (l := [0, 1, 2, 3, 4, 5]) rfl ?_
   iterate 3 refine Zf ?_
   refine Zdw rfl rfl rfl (.some (k := k) rfl (by rfl)) .none .none F.elem24 (by simp only [Option.getD_none]; omega) (by simp only [Option.getD_some, Option.getD_none]; omega) (by simp only [Option.getD_some, Option.getD_none]; omega) (by simp) (pieceV_drop (l := ws_l) (k := k)) rfl ?_
   refine Zfk (m := 1000000) rfl rfl rfl rfl rfl F.elem24 F.zero54 (by exact Zei rfl) rfl (by assumption) (by repeat first | exact Rem.here _ | exact Rem.two | apply Rem.skip | apply Rem.over) (k_d0.h1) WaitV.flat (by (simp; omega)) (by decide) rfl ?_; intro v24 hs23 ho22; obtain ⟨adv24, cpv24, rfl⟩ := ho22.val
   refine Zd ?_; refine Ze ?_; refine Zc ?_; refine Y_pk [4] ?_; refine Zak ?_
   refine Zaj (.inr rfl) (.tmp rfl .nil) (fun w hw => ?_)
   have ho7 := (ho22).as9 (show _ = (ws_l.take k ++ (⟨Zev, Zbo, Zfh, ⟨Zat, Zaw, Zbn, Zaz⟩, Zcn, ⟨Zcl, Zck, Zac⟩⟩ : WaitV) :: ws_l.drop k).map WaitV.segs by simp <;> rfl)
   have hw9 : St _ (hs23 ++ H) w := hw.c
   obtain ⟨M9, s9, g1, g2, g3, g4, g5⟩ := ho7.freezeK hw9
   refine ⟨_, M9, rfl, g1, g2, s9, g3, ?_, g5, fun h hh => ?_⟩
   ·rw [g4, waitR_at (k := k) (by rw [Zcs]; show _ ≤ ws_l.length; omega) (fun j h2 hj => by rw [Zgi (by rw [Zcs] at h2; exact h2)]; exact hI j (by rw [Zcs] at h2; exact h2) hj) (fun h2 => by rw [Zgi (by rw [Zcs] at h2; exact h2)]; first | assumption | (exfalso; rw [Zcs] at h2; replace h2 : _ < ws_l.length := h2; omega))]
    unfold wtl; rw [List.map_append, List.map_cons, List.map_take, List.map_drop]
   ·rw [g4] at hh
    rcases List.mem_append.1 hh with hh | hh
    ·exact (l_ws h (List.mem_of_mem_take hh)).mono g1
    ·rcases List.mem_cons.1 hh with rfl | hh
     ·exact ⟨Zeq.mono g1⟩
     ·exact (l_ws h (List.mem_of_mem_drop hh)).mono g1
end Go.Proofs.YtpkeilhilpogiaaGreat
namespace Go.Proofs.YtpkeilhilpogiaaGreat
open Go.Esp
theorem F.lay26 : lay Tryz.prog 26 = some (true, 5) := by kernel_rfl
theorem F.zero26 : zeroOf Tryz.prog 26 = some (aggV [.one (.int .i64 0), .one (.int .u64 0), .one (.slice none 0 0), .one (.slice none 0 0), .one (.int .u64 0)]) := by kernel_rfl
theorem rOwn_ok (M : Mem) (s : ServerV) (hs0 : ServerV.ok M s) (hb : s.store.l.length ≤ 5000 ∧ s.waits.l.length ≤ 1000 ∧ ∀ w ∈ s.waits.l, w.need.l.length ≤ 1000) : Esp.Fn Tryz.prog 10 [s.enc] M (fun M' v => ∃ s9 : ServerV, v = s9.enc ∧ s9.pl = s.pl ∧ ServerV.ok M' s9) := by
  obtain ⟨Zaf, Zx, ⟨Zr, Zq, Zh⟩, ⟨Zp, Zo, Zg⟩, Zw⟩ := s
  have Zbw : SlK M HeldV.segs 24 ⟨Zr, Zq, Zh⟩ := hs0.h0
  have Zfr : SlM M Zr (Zh.map HeldV.segs) 24 := Zbw.h1
  have n_s_store : (Zh.map HeldV.segs).length = Zh.length := List.length_map ..
  have m_s_store : Zh.length ≤ 9223372036854775807 := Zbw.h2
  have c_s_store : Zh.length ≤ Zq := Zbw.h3
  have Zdq : ∀ y ∈ Zh, HeldV.ok M y := hs0.h1
  have Zbz : SlK M WaitV.segs 28 ⟨Zp, Zo, Zg⟩ := hs0.h2
  have Zfn : SlM M Zp (Zg.map WaitV.segs) 28 := Zbz.h1
  have n_s_waits : (Zg.map WaitV.segs).length = Zg.length := List.length_map ..
  have m_s_waits : Zg.length ≤ 9223372036854775807 := Zbz.h2
  have c_s_waits : Zg.length ≤ Zo := Zbz.h3
  have Zdp : ∀ y ∈ Zg, WaitV.ok M y := hs0.h3
  simp only at hb
  refine Zek Tryz.func10 rfl Tryz.ntmps10 rfl ?_; intro H
  refine Zj ?_; refine Za (l := [0, 1]) rfl ?_
  refine Zcz ?_; intro b1
  refine Zby F.zero26 ?_; intro b2
  refine Ze ?_; refine Zc ?_; refine Y_pk [2, 1] ?_; refine Zj ?_; refine Za (l := [0]) rfl ?_; refine Zd ?_; refine Ze ?_; refine Zc ?_; refine Zj ?_; refine Za (l := [0, 1, 2, 3, 4]) rfl ?_; refine Zf ?_; refine Zb F.foff26_2 ?_; refine Zi F.lay23 ?_
  refine Zfk (m := 1000000) rfl rfl rfl rfl rfl F.elem23 F.zero60 (by exact Zei rfl) rfl (by exact OSl.nil) (by repeat first | exact Rem.here _ | exact Rem.two | apply Rem.skip | apply Rem.over) (Zfr) HeldV.flat (by (simp; omega)) (by decide) rfl ?_; intro v5 hs4 ho3; obtain ⟨adv5, cpv5, rfl⟩ := ho3.val
  refine Zd ?_; refine Ze ?_; refine Zc ?_; refine Y_pk [3, 2, 1] ?_; refine Zj ?_
  have hmla : (([] : List Segs) ++ Zh.map HeldV.segs).length = Zh.length := by simp
  rw [hmla]
  have hoza : OSl 60 24 (.slice adv5 Zh.length cpv5) hs4 (Zh.map HeldV.segs) := by have h9 := ho3; rw [hmla] at h9; exact h9
  refine Zgw hoza (by repeat first | exact Rem.here _ | exact Rem.two | apply Rem.skip | apply Rem.over) (fun M0 hM0 k_st => ?_)
  refine Za (l := [0, 1, 2]) rfl ?_; refine Zf ?_; refine Zb F.foff26_2 ?_; refine Zas F.lay23 ?_; refine Ze ?_; refine Zc ?_; refine Y_pk [2, 1] ?_; refine Zj ?_; refine Za (l := [0]) rfl ?_; refine Zd ?_; refine Ze ?_; refine Zc ?_
  iterate 2 refine Zj ?_
  refine Za (l := [0]) rfl ?_; refine Zd ?_; refine Ze ?_; refine Zc ?_; refine Zbe ?_; refine Y_pk [5, 4, 2, 1] ?_; refine Zeo (Hin := []) (.succ (.succ .zero)) (by repeat first | exact Rem.here _ | exact Rem.two | apply Rem.skip | apply Rem.over) (fun (k : Nat) M1 h1 z => ∃ (wl : List WaitV) (v : Value), z = [(5, .int .i64 (k : Int)), (4, v)] ∧ k ≤ Zg.length ∧ wtl wl = (wtl Zg).take k ∧ (∀ w ∈ wl, WaitV.ok M1 w) ∧ OSl 54 28 v h1 (wl.map WaitV.segs)) (fun k => Zg.length - k) (0) (⟨[], _, rfl, by omega, rfl, (fun w hw => by cases hw), OSl.nil⟩) ?_
  rintro k M1 h1 z hm1 ⟨wl, v0, rfl, hk9, hwl, okl, ho⟩
  obtain ⟨ad0, cp0, rfl⟩ := ho.val
  have hml : (wl.map WaitV.segs).length = wl.length := List.length_map ..
  have hll : wl.length = k := by have h9 := congrArg List.length hwl; rw [Zcs, List.length_take, Zcs] at h9; omega
  rw [hml] at ho ⊢
  have s_w1 := Zfn.mono (hM0.trans hm1)
  iterate 2 refine Zj ?_
  refine Za (l := [0, 1, 2, 3, 4]) rfl ?_; refine Zf ?_; refine Zb F.foff26_3 ?_; refine Zi F.lay24 ?_; refine Zbb F.elem24 ?_; refine Zav ?_; refine Ze ?_; refine Zc ?_
  refine Zau rfl (fun hc6 => ?_) (fun hc6 => ?_)
  ·replace hc6 := dT hc6
   refine Zax ?_; refine Zc ?_; refine Zj ?_; refine Zbe ?_; refine Zj ?_; refine Za (l := [0, 1, 2, 3, 4, 5, 6]) rfl ?_; refine Zb F.foff26_3 ?_; refine Zi F.lay24 ?_; refine Zf ?_; refine Zaa rfl rfl rfl rfl F.elem24 (by rfl) (by omega) (by exact SlM.plain (by assumption) (by (simp; omega))) rfl ?_; refine Zay rfl rfl rfl (by assumption) (by exact Zbl (by omega)) F.lay54 rfl rfl rfl ?_
   obtain ⟨⟨Zev, Zbo, Zfh, ⟨Zat, Zaw, Zbn, Zaz⟩, Zcn, ⟨Zcl, Zck, Zac⟩⟩, hwk⟩ : ∃ w, Zg[k]'(by omega) = w := ⟨_, rfl⟩
   refine Zgq 25 rfl (show _ = aggV (WaitV.segs ⟨Zev, Zbo, Zfh, ⟨Zat, Zaw, Zbn, Zaz⟩, Zcn, ⟨Zcl, Zck, Zac⟩⟩) from by rw [← hwk]; rfl) ?_
   have okw := Zdp _ (List.getElem_mem (n := k) (show k < Zg.length by omega))
   rw [hwk] at okw
   have s_n := okw.h0.h1.mono (hM0.trans hm1)
   try simp only at s_n
   have hnl : Zac.length ≤ 1000 := by have h9 := hb.2.2 _ (List.getElem_mem (n := k) (show k < Zg.length by omega)); rw [hwk] at h9; exact h9
   refine Zby F.zero54 ?_; intro b7
   refine Zas F.lay54 ?_; refine Ze ?_; refine Zc ?_; refine Zj ?_; refine Za (l := [0]) rfl ?_; refine Zd ?_; refine Ze ?_; refine Zc ?_; refine Zj ?_; refine Za (l := [0, 1, 2, 3, 4]) rfl ?_; refine Zf ?_; refine Zb F.foff54_5 ?_; refine Zi F.lay52 ?_
   refine Zfk (m := 1000000) rfl rfl rfl rfl rfl F.elem52 F.zero3 (by rfl) rfl (by exact OSl.nil) (by repeat first | exact Rem.here _ | exact Rem.two | apply Rem.skip | apply Rem.over) (s_n) (fun x : Int => Zam (show _ from rfl) Zbp) (by (simp; omega)) (by decide) rfl ?_; intro v10 hs9 ho8; obtain ⟨adv10, cpv10, rfl⟩ := ho8.val
   refine Zd ?_; refine Ze ?_; refine Zc ?_; refine Zj ?_
   have hmlb : (([] : List Segs) ++ Zac.map (oneI .i64)).length = Zac.length := by simp
   rw [hmlb]
   have hozb : OSl 3 1 (.slice adv10 Zac.length cpv10) hs9 (Zac.map (oneI .i64)) := by have h9 := ho8; rw [hmlb] at h9; exact h9
   refine Zgw hozb (by repeat first | exact Rem.here _ | exact Rem.two | apply Rem.skip | apply Rem.over) (fun M2 hM2 k_nn => ?_)
   refine Za (l := [0, 1, 2]) rfl ?_; refine Zf ?_; refine Zb F.foff54_5 ?_; refine Zas F.lay52 ?_; refine Ze ?_; refine Zc ?_; refine Za (l := [0, 1, 2, 3, 4]) rfl ?_; refine Zf ?_; refine Zi F.lay54 ?_
   refine Zbt rfl rfl F.elem24 F.zero54 rfl rfl (.cons rfl (by constructor) .nil) rfl rfl (by simp only [List.map_cons, List.map_nil] <;> rfl) rfl ?_; intro b11 hob12
   refine Zdn (m := 1000000) rfl rfl rfl rfl rfl F.elem24 F.zero54 (by exact Zei rfl) rfl (by assumption) (by repeat first | exact Rem.here _ | exact Rem.two | apply Rem.skip | apply Rem.over) (Src.own hob12.lens (by (refine Zdy ?_; (repeat (first | exact Zbp | refine Zcb ?_ | (refine Zam ?_ ?_; rfl))); done)) rfl (by repeat first | exact List.Mem.head _ | refine List.Mem.tail _ ?_ | refine List.mem_append_right _ ?_)) (by (simp; omega)) (by decide) rfl ?_; intro v15 hs14 ho13; obtain ⟨adv15, cpv15, rfl⟩ := ho13.val
   refine Zd ?_; refine Ze ?_; refine Zde ?_; refine Zc ?_; refine Za (l := [0, 1, 2]) rfl ?_; refine Zf ?_; refine Zcc rfl rfl rfl rfl rfl (by exact Zbf (by decide) (by omega)) rfl ?_; refine Zd ?_; refine Ze ?_; refine Zcr (a' := [(5, _), (4, _)]) (k + 1) (hs14) (.cons (k := 5) rfl (.cons (k := 4) rfl (.cons (k := 2) rfl (.cons (k := 1) rfl (.nil))))) (hm1.trans hM2) (fun w hw => by first | exact hw | exact hw.c) ?_ ?_
   ·refine ⟨wl ++ [(⟨Zev, Zbo, Zfh, ⟨Zat, Zaw, Zbn, Zaz⟩, Zcn, ⟨adv10, cpv10, Zac⟩⟩ : WaitV)], _, rfl, by omega, ?_, fun w hw => ?_, ?_⟩
    ·rw [List.take_add_one, List.getElem?_eq_getElem (show k < (wtl Zg).length by rw [Zcs]; omega), Zgi (by omega), hwk, ← hwl]
     unfold wtl; rw [List.map_append]; rfl
    ·rcases List.mem_append.1 hw with hw | hw
     ·exact (okl w hw).mono hM2
     ·obtain rfl := List.mem_singleton.1 hw
      exact ⟨k_nn⟩
    ·rw [List.map_append]
     exact ho13
   ·omega
  ·replace hc6 := dF hc6
   refine Zcm ?_
   iterate 2 refine Zcd ?_
   refine Zdl ?_; refine Zc ?_; refine Y_pk [4, 2, 1] ?_; refine Zj ?_
   obtain rfl : k = Zg.length := by omega
   rw [List.take_of_length_le (by rw [Zcs]; omega)] at hwl
   refine Zgw ho (by repeat first | exact Rem.here _ | exact Rem.two | apply Rem.skip | apply Rem.over) (fun M3 hM3 k_w => ?_)
   refine Za (l := [0, 1, 2]) rfl ?_; refine Zf ?_; refine Zb F.foff26_3 ?_; refine Zas F.lay24 ?_; refine Ze ?_; refine Zc ?_; refine Y_pk [2, 1] ?_; refine Zj ?_; refine Za (l := [0, 1]) rfl ?_; refine Zi F.lay26 ?_; refine Zas F.lay26 ?_; refine Ze ?_; refine Zc ?_; refine Y_pk [2] ?_; refine Zak ?_
   refine Zaj (.inr rfl) (.cell rfl (by repeat first | exact List.Mem.head _ | refine List.Mem.tail _ ?_ | refine List.mem_append_right _ ?_) F.lay26 rfl rfl .nil) (fun w hw => ?_)
   exact ⟨_, M3, rfl, hM0.trans (hm1.trans hM3), hw.c, ⟨Zaf, Zx, ⟨adv5, cpv5, Zh⟩, ⟨ad0, cp0, wl⟩, Zw⟩, rfl, by show Srv.mk _ _ (pls Zh) (wtl wl) _ = _; rw [hwl]; rfl, ⟨k_st.mono (hm1.trans hM3), fun h hh => (Zdq h hh).mono (hM0.trans (hm1.trans hM3)), k_w, fun w hw => (okl w hw).mono hM3⟩⟩
end Go.Proofs.YtpkeilhilpogiaaGreat
namespace Go.Esp
def W1 (l : List PeerV) (r : Int) (all : List (List Hd)) (h : Hd) (n : Nat) : Prop := ∀ hn : n < all.length, (findS all[n] h.key).isSome = keepsR l r (n : Int) h.key ∧ ∀ c, findS all[n] h.key = some c → c = h.cell
end Go.Esp
namespace Go.Esp
structure OwnS where
  v : Value
  hs : Hp
  l : List HeldV
def famH : List OwnS → Hp
  | [] => []
  | x :: xs => x.hs ++ famH xs
theorem famH_split : ∀ {xs : List OwnS} {i : Nat} (hi : i < xs.length), ∃ A B, famH xs = A ++ (xs[i].hs ++ B) ∧ ∀ y, famH (xs.set i y) = A ++ (y.hs ++ B)
  | x :: xs, 0, _ => ⟨[], famH xs, rfl, fun y => rfl⟩
  | x :: xs, i + 1, hi => by
    obtain ⟨A, B, h1, h2⟩ := famH_split (xs := xs) (i := i) (by simpa using hi)
    refine ⟨x.hs ++ A, B, ?_, fun y => ?_⟩
    · show x.hs ++ famH xs = _
      rw [h1]; simp
    · show x.hs ++ famH (xs.set i y) = _
      rw [h2]; simp
structure FamI (T n : Nat) (xs : List OwnS) (g : Nat → List HeldV) : Prop where
  len : xs.length = n
  ok : ∀ x ∈ xs, OSl T 24 x.v x.hs (x.l.map HeldV.segs)
  is : ∀ i (hi : i < xs.length), xs[i].l = g i
theorem FamI.none (T n : Nat) {g : Nat → List HeldV} (hg : ∀ i, i < n → g i = []) : FamI T n (List.replicate n ⟨.slice none 0 0, [], []⟩) g :=
  ⟨by simp, fun x hx => by rw [List.eq_of_mem_replicate hx]; exact OSl.nil, fun i hi => by rw [List.getElem_replicate]; exact (hg i (by simpa using hi)).symm⟩
theorem FamI.congr {T n : Nat} {xs : List OwnS} {g g' : Nat → List HeldV} (h : FamI T n xs g) (e : ∀ i, i < n → g i = g' i) : FamI T n xs g' :=
  ⟨h.len, h.ok, fun i hi => (h.is i hi).trans (e i (by rw [← h.len]; exact hi))⟩
theorem FamI.pick {T n : Nat} {xs : List OwnS} {g : Nat → List HeldV} (h : FamI T n xs g) {i0 : Nat} (hi : i0 < n) : ∃ (v : Value) (hs : Hp) (A B : Hp), (xs.map fun x => ([.one x.v] : Segs))[i0]? = some [.one v] ∧ OSl T 24 v hs ((g i0).map HeldV.segs) ∧ famH xs = A ++ (hs ++ B) ∧
    ∀ v' hs' q, OSl T 24 v' hs' ((g i0 ++ [q]).map HeldV.segs) → ∃ xs', FamI T n xs' (fun i => if i = i0 then g i ++ [q] else g i) ∧ famH xs' = A ++ (hs' ++ B) ∧ (xs.map fun x => ([.one x.v] : Segs)).set i0 [.one v'] = xs'.map fun x => [.one x.v] := by
  have hx : i0 < xs.length := by rw [h.len]; exact hi
  obtain ⟨A, B, h1, h2⟩ := famH_split hx
  refine ⟨xs[i0].v, xs[i0].hs, A, B, by simp [hx], ?_, h1, fun v' hs' q ho => ⟨xs.set i0 ⟨v', hs', g i0 ++ [q]⟩, ⟨by simp [h.len], fun x hm => ?_, fun i hi2 => ?_⟩, h2 _, ?_⟩⟩
  · rw [← h.is i0 hx]; exact h.ok _ (List.getElem_mem hx)
  · rcases List.mem_or_eq_of_mem_set hm with hm | rfl
    · exact h.ok x hm
    · exact ho
  · rw [List.getElem_set]
    by_cases e : i0 = i
    · subst e; simp
    · rw [if_neg e, if_neg (fun e' => e e'.symm)]
      exact h.is i (by simpa using hi2)
  · rw [List.map_set]
theorem mod_two {n x : Nat} (h : x < 2 * n) : x % n = if x < n then x else x - n := by
  split
  · exact Nat.mod_eq_of_lt (by assumption)
  · rw [Nat.mod_eq_sub_mod (by omega), Nat.mod_eq_of_lt (by omega)]
theorem copies_at {l : List PeerV} {x : Plc} {r : Int} (h : IsCircle l) (hr : 1 ≤ r ∧ r ≤ 8) {c : List Int} (hc : c = (copiesR l x r).1) :
    c.Nodup ∧ ∀ j (hj : j < c.length), ∃ i : Nat, c[j] = (i : Int) ∧ i < l.length := by
  obtain ⟨rn, rfl⟩ : ∃ n : Nat, r = n := ⟨r.toNat, by omega⟩
  rw [copiesR_yes h (by omega) (by omega)] at hc
  simp only at hc
  have hl := h.1
  have ho : ownerI l x < l.length := ownerI_lt (by omega)
  subst hc
  constructor
  · refine List.pairwise_map.2 (List.Pairwise.imp_of_mem ?_ (List.nodup_range (n := min rn l.length)))
    intro a b ha hb hab e
    rw [List.mem_range] at ha hb
    apply hab
    have e' : (ownerI l x + a) % l.length = (ownerI l x + b) % l.length := by exact_mod_cast e
    rw [mod_two (by omega), mod_two (by omega)] at e'
    split at e' <;> split at e' <;> omega
  · intro j hj
    rw [List.getElem_map]
    exact ⟨_, rfl, Nat.mod_lt _ (by omega)⟩
def filt (l : List PeerV) (r : Int) (i : Nat) (S : List HeldV) : List HeldV := S.filter fun h => keepsR l r (i : Int) h.key
theorem filt_pls {l : List PeerV} {r : Int} {i : Nat} {S : List HeldV} : pls (filt l r i S) = (pls S).filter fun h => keepsR l r (i : Int) h.key := by
  unfold pls filt
  rw [List.filter_map]; rfl
def gainG (l : List PeerV) (r : Int) (S : List HeldV) (k : Nat) (c : List Int) (h : HeldV) (i : Nat) : List HeldV := filt l r i (S.take k) ++ if (i : Int) ∈ c then [h] else []
theorem AllE.healed {M M' : Mem} {l : List PeerV} {r : Int} {all : List (List Hd)} {S : List HeldV} {ss : List (Sl HeldV)} {xs : List OwnS} {T : Nat} {a : Option Addr} {c : Nat} (hc : CircSt l r all) (hS : pls S = ofS mergedT all) (hn : ¬ 2000 < S.length) (hx : FamI T l.length xs fun i => filt l r i S) (hs : ss.map (fun s => s.l) = xs.map (fun x => x.l))
    (hk : SlK M' (fun x => [.one (Sl.val x)]) 1 (⟨a, c, ss⟩ : Sl (Sl HeldV))) (hss : ∀ s ∈ ss, SlK M' HeldV.segs 24 s) (hok : ∀ h ∈ S, HeldV.ok M h) (hm : M.le M') : AllE M' (.tuple #[(⟨a, c, ss⟩ : Sl (Sl HeldV)).val, .int .i64 0]) (healR l r all) := by
  have he : healR l r all = ((List.range l.length).map fun i : Nat => (ofS mergedT all).filter fun h => keepsR l r (i : Int) h.key, 0) := by
    unfold healR
    rw [if_pos hc, if_neg (by rw [← hS, Zdm]; exact hn)]
  rw [he]
  have hat : ∀ i (hi : i < ss.length), ss[i].l = filt l r i S := fun i hi => by
    have hl : ss.length = xs.length := by have := congrArg List.length hs; simpa using this
    have h1 : (ss.map (fun s => s.l))[i]'(by simpa using hi) = (xs.map (fun x => x.l))[i]'(by simpa using (hl ▸ hi)) := by congr 1
    rw [List.getElem_map, List.getElem_map] at h1
    rw [h1]; exact hx.is i _
  refine ⟨⟨a, c, ss⟩, rfl, ?_, hk, fun y hy => ⟨hss y hy, fun h hh => ?_⟩⟩
  · refine List.ext_getElem ?_ fun i h1 h2 => ?_
    · have hl : ss.length = xs.length := by have := congrArg List.length hs; simpa using this
      rw [plss_len, List.length_map, List.length_range, hl, hx.len]
    · have h1' : i < ss.length := by rw [plss_len] at h1; exact h1
      rw [plss_at h1', hat i h1', filt_pls, hS, List.getElem_map, List.getElem_range]
  · obtain ⟨i, hi, rfl⟩ := List.getElem_of_mem hy
    rw [hat i hi] at hh
    exact (hok h ((List.mem_filter.1 hh).1)).mono hm
end Go.Esp
namespace Go.Proofs.YtpkeilhilpogiaaGreat
open Go.Esp
theorem F.ok104 : okFn Tryz.prog 104 = true := by kernel_rfl
theorem rothers_ok (M : Mem) (l : (Sl PeerV)) (r : Int) (key : Plc) (hl0 : SlK M PeerV.segs 21 l) (hci : IsCircle l.l) (hr : 1 ≤ r ∧ r ≤ 8) : Esp.Fn Tryz.prog 73 [Sl.val l, .int .i64 r, aggV [idSeg key]] M (fun M' v => ∃ q : Sl Int, v = q.val ∧ q.l = othersR l.l r key ∧ SlK M' (oneI .i64) 1 q) := by
  obtain ⟨l_a, l_c, l_l⟩ := l
  have k_l : SlK M PeerV.segs 21 ⟨l_a, l_c, l_l⟩ := hl0
  have s_l : SlM M l_a (l_l.map PeerV.segs) 21 := k_l.h1
  have n_l : (l_l.map PeerV.segs).length = l_l.length := List.length_map ..
  have m_l : l_l.length ≤ 9223372036854775807 := k_l.h2
  have c_l : l_l.length ≤ l_c := k_l.h3
  simp only at hci
  refine Zek Tryz.func73 rfl Tryz.ntmps73 rfl ?_; intro H
  refine Zj ?_; refine Za (l := [0, 1]) rfl ?_
  refine Zcz ?_; intro b1
  refine Zd ?_; refine Ze ?_; refine Zc ?_; refine Y_pk [6, 5, 0, 1] ?_; refine Zj ?_; refine Za (l := [0, 1, 2, 3, 4, 5, 6, 7, 8]) rfl ?_; refine Zf ?_; refine Zi F.lay29 ?_; refine Zf ?_; refine X_fn rfl rfl F.ok104 rfl (rCopies_ok _ ⟨l_a, l_c, l_l⟩ key r k_l) rfl ?_
  rintro _ M1 hm1 ⟨⟨c_a, c_c, c_l⟩, rfl, hcl, k_c⟩
  simp only at hcl
  have s_c := k_c.h1
  simp only at s_c
  have m_c : c_l.length ≤ 9223372036854775807 := k_c.h2
  have n_c : (c_l.map (oneI .i64)).length = c_l.length := List.length_map ..
  obtain ⟨hcn, hca⟩ := copies_at hci hr hcl
  obtain ⟨ad, had⟩ : ∃ ad, addrsR l_l c_l = ad := ⟨_, rfl⟩
  have hadn : ad.Nodup := by rw [← had]; exact addrs_nodup hci hcn hca
  have hadl : ad.length = c_l.length - 1 := by rw [← had]; exact addrs_len
  have s_l1 := s_l.mono hm1
  refine Zf ?_
  iterate 2 refine Zcf ?_
  iterate 2 refine Zd ?_
  refine Ze ?_; refine Zc ?_; refine Y_pk [7, 6, 0] ?_; refine Zj ?_; refine Za (l := [0]) rfl ?_; refine Zd ?_; refine Ze ?_; refine Zc ?_
  iterate 2 refine Zj ?_
  refine Za (l := [0]) rfl ?_; refine Zd ?_; refine Ze ?_; refine Zc ?_; refine Zbe ?_; refine Y_pk [10, 9, 7, 6, 0] ?_; refine Zeo (Hin := []) (.succ (.succ .zero)) (by repeat first | exact Rem.here _ | exact Rem.two | apply Rem.skip | apply Rem.over) (fun (a : Nat) M2 h2 z => ∃ v, M2 = M1 ∧ z = [(10, .int .i64 (a : Int)), (9, v)] ∧ a ≤ 1000 ∧ OSl 3 1 v h2 ((uptoR ad (a)).map (oneI .i64))) (fun a => 1000 - a) (0) (⟨_, rfl, rfl, by omega, OSl.nil⟩) ?_
  rintro a M2 h2 z hm2 ⟨v2, hM2, rfl, ha, ho⟩
  subst M2
  obtain ⟨ad0, cp0, rfl⟩ := ho.val
  have hml : ((uptoR ad (a)).map (oneI .i64)).length = (uptoR ad a).length := List.length_map ..
  rw [hml] at ho ⊢
  have hul := upto_len (ad := ad) (n := a)
  iterate 2 refine Zj ?_
  refine Za (l := [0, 1]) rfl ?_; refine Zf ?_; refine Zav ?_; refine Ze ?_; refine Zc ?_
  refine Zau rfl (fun hc2 => ?_) (fun hc2 => ?_)
  ·replace hc2 := dT hc2
   refine Zax ?_; refine Zc ?_; refine Zj ?_; refine Zbe ?_; refine Zj ?_; refine Za (l := [0]) rfl ?_; refine Zd ?_; refine Ze ?_; refine Zc ?_; refine Zbe ?_; refine Y_pk [11, 9, 20, 19, 10, 7, 6, 0] ?_; refine Zeo (Hin := h2) (.succ (.succ .zero)) (by repeat first | exact Rem.here _ | exact Rem.two | apply Rem.skip | apply Rem.over) (fun (k : Nat) M3 h3 z => ∃ v, M3 = M1 ∧ z = [(11, .int .i64 (k : Int)), (9, v)] ∧ 1 ≤ k ∧ (k ≤ c_l.length ∨ k = 1) ∧ OSl 3 1 v h3 ((uptoR ad a ++ if (a : Int) ∈ ad.take (k - 1) then [(a : Int)] else []).map (oneI .i64))) (fun k => c_l.length - k) (1) (⟨_, rfl, rfl, by omega, by omega, by simpa using ho⟩) ?_
   rintro k M3 h3 z hm3 ⟨v3, hM3, rfl, hk1, hk, ho3⟩
   subst M3
   obtain ⟨ad3, cp3, rfl⟩ := ho3.val
   iterate 2 refine Zj ?_
   refine Za (l := [0, 1, 2, 3]) rfl ?_
   iterate 2 refine Zf ?_
   refine Zbb F.elem52 ?_; refine Zav ?_; refine Ze ?_; refine Zc ?_
   refine Zau rfl (fun hc3 => ?_) (fun hc3 => ?_)
   ·replace hc3 := dT hc3
    refine Zax ?_; refine Zc ?_; refine Zj ?_; refine Zbe ?_; refine Zj ?_; refine Za (l := [0, 1, 2, 3, 4, 5, 6, 7, 8, 9]) rfl ?_
    iterate 3 refine Zf ?_
    refine Zaa rfl rfl rfl rfl F.elem52 (by rfl) (by omega) (by exact SlM.plain (by assumption) (by (simp; omega))) rfl ?_; refine Zay rfl rfl rfl (by assumption) (by exact Zbl (by omega)) F.lay3 rfl rfl rfl ?_
    obtain ⟨i0, hi0, hil⟩ := hca k (by omega)
    rw [hi0]
    have hat9 : ad[k - 1]? = some l_l[i0].addr := by rw [← had]; exact addrs_at hk1 (by omega) hi0 hil
    have hg1 : (if (a : Int) ∈ ad.take (k - 1) then [(a : Int)] else []).length ≤ 1 := by split <;> simp
    have hgl : (uptoR ad a ++ if (a : Int) ∈ ad.take (k - 1) then [(a : Int)] else []).length ≤ 1001 := by rw [List.length_append]; omega
    refine Zaa rfl rfl rfl rfl F.elem27 (by rfl) (by omega) (by exact SlM.plain (by assumption) (by (simp; omega))) rfl ?_; refine Zaq rfl rfl rfl (by exact SlM.plain (by assumption) (by (simp; omega))) F.foff80_0 rfl ?_; refine Zay rfl rfl rfl (by assumption) (by exact Zbl (by omega)) F.lay3 rfl rfl rfl ?_; refine Zf ?_; refine Zav ?_; refine Ze ?_; refine Zc ?_
    refine Zau rfl (fun hc4 => ?_) (fun hc4 => ?_)
    ·replace hc4 := dT hc4
     simp only [List.get_eq_getElem] at hc4
     refine Za (l := [0, 1, 2, 3, 4]) rfl ?_
     iterate 2 refine Zf ?_
     refine Zbt rfl rfl F.elem52 F.zero3 rfl rfl (.cons rfl (by constructor) .nil) rfl rfl (by simp only [List.map_cons, List.map_nil] <;> rfl) rfl ?_; intro b5 hob6
     refine Zdn (m := 1000000) rfl rfl rfl rfl rfl F.elem52 F.zero3 (by rfl) rfl (by assumption) (by repeat first | exact Rem.here _ | exact Rem.two | apply Rem.skip | apply Rem.over) (Src.own hob6.lens (by (refine Zdy ?_; (repeat (first | exact Zbp | refine Zcb ?_ | (refine Zam ?_ ?_; rfl))); done)) rfl (by repeat first | exact List.Mem.head _ | refine List.Mem.tail _ ?_ | refine List.mem_append_right _ ?_)) (by (simp; omega)) (by decide) rfl ?_; intro v9 hs8 ho7; obtain ⟨adv9, cpv9, rfl⟩ := ho7.val
     refine Zd ?_; refine Ze ?_; refine Zde ?_; refine Zc ?_; refine Za (l := [0, 1, 2]) rfl ?_; refine Zf ?_; refine Zcc rfl rfl rfl rfl rfl (by exact Zbf (by decide) (by omega)) rfl ?_; refine Zd ?_; refine Ze ?_; refine Zcr (a' := [(11, _), (9, _)]) (k + 1) (hs8) (.cons (k := 11) rfl (.cons (k := 9) rfl (.cons (k := 20) rfl (.cons (k := 19) rfl (.cons (k := 10) rfl (.cons (k := 7) rfl (.cons (k := 6) rfl (.cons (k := 0) rfl (.nil))))))))) (by exact Mem.le.refl _) (fun w hw => by first | exact hw | exact hw.c) ?_ ?_
     ·refine ⟨_, rfl, rfl, by omega, by omega, OSl.as9 ho7 ?_⟩
      rw [show k + 1 - 1 = (k - 1) + 1 by omega, gainA hadn hat9, show (if l_l[i0].addr = (a : Int) then [(a : Int)] else []) = [(a : Int)] from if_pos (by assumption)]
      simp [oneI]
     ·omega
    ·replace hc4 := dF hc4
     simp only [List.get_eq_getElem] at hc4
     refine Zax ?_; refine Zde ?_; refine Zc ?_; refine Za (l := [0, 1, 2]) rfl ?_; refine Zf ?_; refine Zcc rfl rfl rfl rfl rfl (by exact Zbf (by decide) (by omega)) rfl ?_; refine Zd ?_; refine Ze ?_; refine Zcr (a' := [(11, _), (9, _)]) (k + 1) (h3) (.cons (k := 11) rfl (.cons (k := 9) rfl (.cons (k := 20) rfl (.cons (k := 19) rfl (.cons (k := 10) rfl (.cons (k := 7) rfl (.cons (k := 6) rfl (.cons (k := 0) rfl (.nil))))))))) (by exact Mem.le.refl _) (fun w hw => by first | exact hw | exact hw.c) ?_ ?_
     ·refine ⟨_, rfl, rfl, by omega, by omega, OSl.as9 ho3 ?_⟩
      rw [show k + 1 - 1 = (k - 1) + 1 by omega, gainA hadn hat9, show (if l_l[i0].addr = (a : Int) then [(a : Int)] else []) = [] from if_neg (by assumption), List.append_nil]
     ·omega
   ·replace hc3 := dF hc3
    refine Zcm ?_
    iterate 2 refine Zcd ?_
    refine Zdl ?_; refine Zde ?_; refine Zc ?_; refine Za (l := [0, 1, 2]) rfl ?_; refine Zf ?_; refine Zcc rfl rfl rfl rfl rfl (by exact Zbf (by decide) (by omega)) rfl ?_; refine Zd ?_; refine Ze ?_; refine Zcr (a' := [(10, _), (9, _)]) (a + 1) (h3) (.cons (k := 10) rfl (.cons (k := 9) rfl (.cons (k := 7) rfl (.cons (k := 6) rfl (.cons (k := 0) rfl (.nil)))))) (by exact Mem.le.refl _) (fun w hw => by first | exact hw | exact hw.c) ?_ ?_
    ·refine ⟨_, rfl, rfl, by omega, ho3.as9 ?_⟩
     rw [upto_step, List.take_of_length_le (by omega)]
    ·omega
  ·replace hc2 := dF hc2
   refine Zcm ?_
   iterate 2 refine Zcd ?_
   refine Zdl ?_; refine Zc ?_; refine Y_pk [9, 6] ?_; refine Zj ?_; refine Za (l := [0, 1]) rfl ?_; refine Zf ?_; refine Zd ?_; refine Ze ?_; refine Zc ?_; refine Y_pk [6] ?_; refine Zak ?_
   refine Zaj (.inr rfl) (.tmp rfl .nil) (fun w hw => ?_)
   obtain rfl : a = 1000 := by omega
   obtain ⟨M9, s9, g1, g2, g3, g4, g5⟩ := OSl.freezeK (f := oneI .i64) (H := H) (l := uptoR ad 1000) ho (hw.c)
   refine ⟨_, M9, rfl, hm1.trans g1, g2, s9, g3, ?_, g5⟩
   rw [g4]
   show _ = uptoR (addrsR l_l (copiesR l_l key r).1) 1000
   rw [← hcl, had]
end Go.Proofs.YtpkeilhilpogiaaGreat
namespace Go.Esp
def keptL (l : List PeerV) (r : Int) (S : List Hd) (i : Nat) : List Hd := S.filter fun h => keepsR l r (i : Int) h.key
def healsL (l : List PeerV) (r : Int) (S : List Hd) : List (List Hd) := (List.range l.length).map (keptL l r S)
def same3 (a b : Cel) : Prop := a.version = b.version ∧ a.val = b.val ∧ a.has = b.has
end Go.Esp
namespace Go.Esp
def Hid (p : Prop) : Prop := p
theorem celz_ok : IsCel Cel.zero := by unfold IsCel ValOk MarksOk Cel.zero; exact ⟨⟨by decide, .inr rfl⟩, (fun m hm => by cases hm), List.Pairwise.nil⟩
theorem findP_some {s : List Hd} {k : Plc} {c : Cel} (h : findS s k = some c) : findP s k = (c, true) := by unfold findP; rw [h]
theorem findP_none {s : List Hd} {k : Plc} (h : findS s k = none) : findP s k = (Cel.zero, false) := by unfold findP; rw [h]
theorem findP_ok {s : List Hd} (h : StOk s) (k : Plc) : IsCel (findP s k).1 := by
  cases e : findS s k with
  | none => rw [findP_none e]; exact celz_ok
  | some c => rw [findP_some e]; exact h.1 _ (findS_some e)
theorem upto_mem {ad : List Int} {n : Nat} {a : Int} : a ∈ uptoR ad n ↔ a ∈ ad ∧ 0 ≤ a ∧ a < n := by
  unfold uptoR
  simp only [List.mem_filter, List.mem_map, List.mem_range, decide_eq_true_eq]
  constructor
  · rintro ⟨⟨j, h1, rfl⟩, h2⟩; exact ⟨h2, by omega, by omega⟩
  · rintro ⟨h1, h2, h3⟩; exact ⟨⟨a.toNat, by omega, by omega⟩, h1⟩
theorem upto_sorted {ad : List Int} {n : Nat} : (uptoR ad n).Pairwise (fun x y => x < y) := by
  unfold uptoR
  refine List.Pairwise.filter _ ?_
  rw [List.pairwise_map]
  exact (List.pairwise_lt_range (n := n)).imp (fun h => by omega)
theorem copies_len {l : List PeerV} {x : Plc} {r : Int} (hr : 1 ≤ r ∧ r ≤ 8) : (copiesR l x r).1.length ≤ 8 := by
  unfold copiesR
  split
  · simp only [List.length_map, List.length_range]; omega
  · exact Nat.zero_le _
theorem req_none {s : Srv} {l : List PeerV} {r : Int} {p : Prc} (h : (l.getD (ownerI l p.key) ⟨0, 0⟩).addr ≠ s.addr) : requestR s l r p = (s, [replyR s p.op.client p.op.req ⟨7, 0, false, ⟨#[]⟩⟩]) := if_pos h
theorem req_wait {s : Srv} {l : List PeerV} {r : Int} {p : Prc} (h : (l.getD (ownerI l p.key) ⟨0, 0⟩).addr = s.addr) {w : Wt} (hf : (s.waits.find? fun w => decide (w.key = p.key)) = some w) : requestR s l r p = (s, copiesP s p.key w.serial w.need) := by
  unfold requestR; rw [if_neg (fun e => e h), hf]
theorem req_get {s : Srv} {l : List PeerV} {r : Int} {p : Prc} (h : (l.getD (ownerI l p.key) ⟨0, 0⟩).addr = s.addr) (hf : (s.waits.find? fun w => decide (w.key = p.key)) = none) (hk : p.op.kind = 1) {D1 : Cel} {da : AnswerV} {db : Bool} {de : Int} (hD : doC (findP s.store p.key).1 p.op = (D1, da, db, de)) : requestR s l r p = (s, [replyR s p.op.client p.op.req da]) := by
  unfold requestR; rw [if_neg (fun e => e h), hf]; simp only; rw [if_pos hk, hD]
theorem req_full {s : Srv} {l : List PeerV} {r : Int} {p : Prc} (h : (l.getD (ownerI l p.key) ⟨0, 0⟩).addr = s.addr) (hf : (s.waits.find? fun w => decide (w.key = p.key)) = none) (hk : ¬ p.op.kind = 1) {D1 : Cel} {da : AnswerV} {db : Bool} {de : Int} (hD : doC (findP s.store p.key).1 p.op = (D1, da, db, de)) {Q1 : List Hd} {qe : Int} (hQ : putR s.store p.key D1 = (Q1, qe)) (hq : ¬ qe = 0) : requestR s l r p = (s, []) := by
  unfold requestR; rw [if_neg (fun e => e h), hf]; simp only; rw [if_neg hk, hD, hQ, if_pos hq]
theorem req_done {s : Srv} {l : List PeerV} {r : Int} {p : Prc} (h : (l.getD (ownerI l p.key) ⟨0, 0⟩).addr = s.addr) (hf : (s.waits.find? fun w => decide (w.key = p.key)) = none) (hk : ¬ p.op.kind = 1) {D1 : Cel} {da : AnswerV} {db : Bool} {de : Int} (hD : doC (findP s.store p.key).1 p.op = (D1, da, db, de)) {Q1 : List Hd} {qe : Int} (hQ : putR s.store p.key D1 = (Q1, qe)) (hq : qe = 0) {t : List Int} (ht : t = othersR l r p.key) (hd : db = false ∨ t = []) : requestR s l r p = (⟨s.addr, s.epoch, Q1, s.waits, s.serial⟩, [replyR s p.op.client p.op.req da]) := by
  unfold requestR; rw [← ht, if_neg (fun e => e h), hf]; simp only; rw [if_neg hk, hD, hQ, if_neg (fun e => e hq), if_pos hd]; rfl
theorem req_more {s : Srv} {l : List PeerV} {r : Int} {p : Prc} (h : (l.getD (ownerI l p.key) ⟨0, 0⟩).addr = s.addr) (hf : (s.waits.find? fun w => decide (w.key = p.key)) = none) (hk : ¬ p.op.kind = 1) {D1 : Cel} {da : AnswerV} {db : Bool} {de : Int} (hD : doC (findP s.store p.key).1 p.op = (D1, da, db, de)) {Q1 : List Hd} {qe : Int} (hQ : putR s.store p.key D1 = (Q1, qe)) (hq : qe = 0) {t : List Int} (ht : t = othersR l r p.key) (hd : ¬ (db = false ∨ t = [])) {v : Int} (hv : w64 (s.serial + 1) = v) {W : List Wt} (hW : W = waitR s.waits ⟨p.key, p.op.client, p.op.req, da, v, t⟩) : requestR s l r p = (⟨s.addr, s.epoch, Q1, W, v⟩, copiesP ⟨s.addr, s.epoch, Q1, W, v⟩ p.key v t) := by
  unfold requestR; rw [← ht, if_neg (fun e => e h), hf]; simp only; rw [if_neg hk, hD, hQ, if_neg (fun e => e hq), if_neg hd, hv, ← hW]
def RqE (M : Mem) (v : Value) (r : Srv × List Pst) : Prop := ∃ (s : ServerV) (x : Sl PostV), v = .tuple #[s.enc, x.val] ∧ s.pl = r.1 ∧ pstl x.l = r.2 ∧ ServerV.ok M s ∧ SlK M PostV.segs 37 x ∧ ∀ y ∈ x.l, PostV.ok M y
def Sent (e : Int) (x : Pst) : Prop := IsPrc x.parcel ∧ x.parcel.epoch = e
theorem copyM_some {s : Srv} {p : Prc} {c : Cel} (h : findS s.store p.key = some c) : copyM s p = mergedT c p.cell := by unfold copyM; rw [h]
theorem copyM_none {s : Srv} {p : Prc} (h : findS s.store p.key = none) : copyM s p = p.cell := by unfold copyM; rw [h]
theorem copyR_no {s : Srv} {f : Int} {p : Prc} {m : Cel} (hm : copyM s p = m) {Q : List Hd} {qe : Int} (hQ : putR s.store p.key m = (Q, qe)) (h : ¬ qe = 0) : copyR s f p = (s, []) := by
  unfold copyR; rw [hm, hQ]; exact if_pos h
theorem copyR_yes {s : Srv} {f : Int} {p : Prc} {m : Cel} (hm : copyM s p = m) {Q : List Hd} {qe : Int} (hQ : putR s.store p.key m = (Q, qe)) (h : qe = 0) : copyR s f p = (⟨s.addr, s.epoch, Q, s.waits, s.serial⟩, [⟨f, ⟨4, s.epoch, 0, OpV.zero, AnswerV.zero, p.serial, Cel.zero⟩⟩]) := by
  unfold copyR; rw [hm, hQ]; exact if_neg (fun e => e h)
def TakeOk (s : Srv) (l : List PeerV) (r : Int) (p : Prc) : Prop := IsSrv s ∧ IsCircle l ∧ (1 ≤ r ∧ r ≤ 8) ∧ IsPrc p
theorem srvR_no {s : Srv} {l : List PeerV} {r f : Int} {p : Prc} (h : ¬ TakeOk s l r p) : srvR s l r f p = (Srv.zero, [], 1) := if_neg h
theorem srvR_yes {s : Srv} {l : List PeerV} {r f : Int} {p : Prc} (h : TakeOk s l r p) : srvR s l r f p = if p.epoch ≠ s.epoch then (s, [], 0)
    else if p.kind = 1 then ((requestR s l r p).1, (requestR s l r p).2, 0)
    else if p.kind = 3 then ((copyR s f p).1, (copyR s f p).2, 0)
    else if p.kind = 4 then ((copiedR s f p.serial).1, (copiedR s f p.serial).2, 0)
    else (s, [], 0) := if_pos h
theorem srvR_ep {s : Srv} {l : List PeerV} {r f : Int} {p : Prc} (h : TakeOk s l r p) (he : p.epoch ≠ s.epoch) : srvR s l r f p = (s, [], 0) := by rw [srvR_yes h, if_pos he]
theorem srvR_req {s : Srv} {l : List PeerV} {r f : Int} {p : Prc} (h : TakeOk s l r p) (he : p.epoch = s.epoch) (hk : p.kind = 1) : srvR s l r f p = ((requestR s l r p).1, (requestR s l r p).2, 0) := by rw [srvR_yes h, if_neg (fun e => e he), if_pos hk]
theorem srvR_copy {s : Srv} {l : List PeerV} {r f : Int} {p : Prc} (h : TakeOk s l r p) (he : p.epoch = s.epoch) (hk : p.kind = 3) : srvR s l r f p = ((copyR s f p).1, (copyR s f p).2, 0) := by
  rw [srvR_yes h, if_neg (fun e => e he), if_neg (by omega), if_pos hk]
theorem srvR_copied {s : Srv} {l : List PeerV} {r f : Int} {p : Prc} (h : TakeOk s l r p) (he : p.epoch = s.epoch) (hk : p.kind = 4) : srvR s l r f p = ((copiedR s f p.serial).1, (copiedR s f p.serial).2, 0) := by
  rw [srvR_yes h, if_neg (fun e => e he), if_neg (by omega), if_neg (by omega), if_pos hk]
theorem srvR_else {s : Srv} {l : List PeerV} {r f : Int} {p : Prc} (h : TakeOk s l r p) (he : p.epoch = s.epoch) (h1 : ¬ p.kind = 1) (h3 : ¬ p.kind = 3) (h4 : ¬ p.kind = 4) : srvR s l r f p = (s, [], 0) := by
  rw [srvR_yes h, if_neg (fun e => e he), if_neg h1, if_neg h3, if_neg h4]
theorem prc_op {p : Prc} (h : IsPrc p) (hk : p.kind = 1) : IsOp p.op := by
  rcases h with h | h | h | h
  · exact h.2.1
  · exact absurd (h.1.symm.trans hk) (by decide)
  · exact absurd (h.1.symm.trans hk) (by decide)
  · exact absurd (h.1.symm.trans hk) (by decide)
end Go.Esp
