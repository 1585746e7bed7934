/-
  The program's structs: what data of their types are like.
-/
import Derived.Test.YtelpkhhfjfbkcaaDoorRows
import Derived.Test.YtelpkhhfjfbkcaaDoorLift
import Derived.Test.YtelpkhhfjfbkcaaDoorTypes
set_option linter.unusedSimpArgs false
set_option linter.unusedVariables false
set_option linter.unnecessarySimpa false
set_option maxRecDepth 8000
namespace Go.Proofs.YtelpkhhfjfbkcaaDoor
open Go.Esp

theorem Tryd.own : ownKnob Tryd.prog.godebug = none := by kernel_rfl
theorem Tryd.laidOut : laidOutB Tryd.prog = true := by kernel_rfl

theorem OpV_of_ty {M : Mem} {n : Nat} {R : Segs} (h : Ty Tryd.prog M n 26 R) : ∃ x : OpV, R = x.segs := by
  obtain ⟨k, Rs, rfl, hlen, hf⟩ := ty_struct Tryd.underlying26 h
  match Rs, hlen with
  | [r0, r1, r2, r3, r4], _ =>
    obtain ⟨x0, rfl, _⟩ := ty_int Tryd.underlying3 (hf 0 _ r0 rfl rfl)
    obtain ⟨x1, rfl, _⟩ := ty_int Tryd.underlying22 (hf 1 _ r1 rfl rfl)
    obtain ⟨x2, rfl, _⟩ := ty_int Tryd.underlying3 (hf 2 _ r2 rfl rfl)
    obtain ⟨x3, rfl, _⟩ := ty_int Tryd.underlying22 (hf 3 _ r3 rfl rfl)
    obtain ⟨x4, rfl, _⟩ := ty_str Tryd.underlying9 (hf 4 _ r4 rfl rfl)
    exact ⟨⟨x0, x1, x2, x3, x4⟩, rfl⟩
theorem id_of_ty24 {M : Mem} {n : Nat} {R : Segs} (h : Ty Tryd.prog M n 24 R) : ∃ x : Plc, R = [idSeg x] := by
  cases n with
  | zero => exact h.elim
  | succ m =>
    simp only [Ty, Tryd.underlying24, Tryd.underlying5] at h
    obtain ⟨f, rfl, hf⟩ := h (by kernel_rfl)
    obtain ⟨x, rfl⟩ := idV_of hf
    exact ⟨x, rfl⟩
theorem ClientV_of_ty {M : Mem} {n : Nat} {R : Segs} (h : Ty Tryd.prog M n 28 R) : ∃ x : ClientV, R = x.segs := by
  obtain ⟨k, Rs, rfl, hlen, hf⟩ := ty_struct Tryd.underlying28 h
  match Rs, hlen with
  | [r0, r1, r2, r3, r4, r5], _ =>
    obtain ⟨x0, rfl, _⟩ := ty_int Tryd.underlying3 (hf 0 _ r0 rfl rfl)
    obtain ⟨x1, rfl, _⟩ := ty_int Tryd.underlying22 (hf 1 _ r1 rfl rfl)
    obtain ⟨x2, rfl⟩ := ty_bool Tryd.underlying4 (hf 2 _ r2 rfl rfl)
    obtain ⟨x3, rfl⟩ := id_of_ty24 (hf 3 _ r3 rfl rfl)
    obtain ⟨x4, rfl⟩ := OpV_of_ty (hf 4 _ r4 rfl rfl)
    obtain ⟨x5, rfl, _⟩ := ty_int Tryd.underlying3 (hf 5 _ r5 rfl rfl)
    exact ⟨⟨x0, x1, x2, x3, x4, x5⟩, rfl⟩
theorem AnswerV_of_ty {M : Mem} {n : Nat} {R : Segs} (h : Ty Tryd.prog M n 37 R) : ∃ x : AnswerV, R = x.segs := by
  obtain ⟨k, Rs, rfl, hlen, hf⟩ := ty_struct Tryd.underlying37 h
  match Rs, hlen with
  | [r0, r1, r2, r3], _ =>
    obtain ⟨x0, rfl, _⟩ := ty_int Tryd.underlying29 (hf 0 _ r0 rfl rfl)
    obtain ⟨x1, rfl, _⟩ := ty_int Tryd.underlying22 (hf 1 _ r1 rfl rfl)
    obtain ⟨x2, rfl⟩ := ty_bool Tryd.underlying4 (hf 2 _ r2 rfl rfl)
    obtain ⟨x3, rfl, _⟩ := ty_str Tryd.underlying9 (hf 3 _ r3 rfl rfl)
    exact ⟨⟨x0, x1, x2, x3⟩, rfl⟩
theorem OutcomeV_of_ty {M : Mem} {n : Nat} {R : Segs} (h : Ty Tryd.prog M n 45 R) : ∃ x : OutcomeV, R = x.segs := by
  obtain ⟨k, Rs, rfl, hlen, hf⟩ := ty_struct Tryd.underlying45 h
  match Rs, hlen with
  | [r0, r1], _ =>
    obtain ⟨x0, rfl⟩ := ty_bool Tryd.underlying4 (hf 0 _ r0 rfl rfl)
    obtain ⟨x1, rfl⟩ := AnswerV_of_ty (hf 1 _ r1 rfl rfl)
    exact ⟨⟨x0, x1⟩, rfl⟩
theorem MarkV_of_ty {M : Mem} {n : Nat} {R : Segs} (h : Ty Tryd.prog M n 123 R) : ∃ x : MarkV, R = x.segs := by
  obtain ⟨k, Rs, rfl, hlen, hf⟩ := ty_struct Tryd.underlying123 h
  match Rs, hlen with
  | [r0, r1, r2], _ =>
    obtain ⟨x0, rfl, _⟩ := ty_int Tryd.underlying3 (hf 0 _ r0 rfl rfl)
    obtain ⟨x1, rfl, _⟩ := ty_int Tryd.underlying22 (hf 1 _ r1 rfl rfl)
    obtain ⟨x2, rfl⟩ := AnswerV_of_ty (hf 2 _ r2 rfl rfl)
    exact ⟨⟨x0, x1, x2⟩, rfl⟩
theorem sl_of_ty38 {M : Mem} {n : Nat} {R : Segs} (h : Ty Tryd.prog M n 38 R) : ∃ x : (Sl MarkV), R = [.one x.val] ∧ SlM M x.a (x.l.map MarkV.segs) 6 ∧ x.l.length ≤ maxLen := by
  have e : Tryd.prog.cellsOf 123 = 6 := by kernel_rfl
  obtain ⟨ad, rows, c, m, rfl, h2, h3, h4⟩ := ty_slice Tryd.underlying38 (by rw [e]; decide) h
  obtain ⟨l, rfl⟩ := rows_map (f := MarkV.segs) (fun r hr => by
      exact MarkV_of_ty (h4 r hr))
  rw [e] at h2
  exact ⟨⟨ad, c, l⟩, by simp [Sl.val], h2, by simpa using h3⟩
theorem CellV_of_ty {M : Mem} {n : Nat} {R : Segs} (h : Ty Tryd.prog M n 40 R) : ∃ x : CellV, R = x.segs ∧ CellV.ok M x := by
  obtain ⟨k, Rs, rfl, hlen, hf⟩ := ty_struct Tryd.underlying40 h
  match Rs, hlen with
  | [r0, r1, r2, r3], _ =>
    obtain ⟨x0, rfl, _⟩ := ty_int Tryd.underlying22 (hf 0 _ r0 rfl rfl)
    obtain ⟨x1, rfl⟩ := ty_bool Tryd.underlying4 (hf 1 _ r1 rfl rfl)
    obtain ⟨x2, rfl, _⟩ := ty_str Tryd.underlying9 (hf 2 _ r2 rfl rfl)
    obtain ⟨x3, rfl, kx3, bx3⟩ := sl_of_ty38 (hf 3 _ r3 rfl rfl)
    exact ⟨⟨x0, x1, x2, x3⟩, rfl, ⟨kx3, bx3⟩⟩
theorem ParcelV_of_ty {M : Mem} {n : Nat} {R : Segs} (h : Ty Tryd.prog M n 42 R) : ∃ x : ParcelV, R = x.segs ∧ ParcelV.ok M x := by
  obtain ⟨k, Rs, rfl, hlen, hf⟩ := ty_struct Tryd.underlying42 h
  match Rs, hlen with
  | [r0, r1, r2, r3, r4, r5, r6], _ =>
    obtain ⟨x0, rfl, _⟩ := ty_int Tryd.underlying3 (hf 0 _ r0 rfl rfl)
    obtain ⟨x1, rfl, _⟩ := ty_int Tryd.underlying22 (hf 1 _ r1 rfl rfl)
    obtain ⟨x2, rfl⟩ := id_of_ty24 (hf 2 _ r2 rfl rfl)
    obtain ⟨x3, rfl⟩ := OpV_of_ty (hf 3 _ r3 rfl rfl)
    obtain ⟨x4, rfl⟩ := AnswerV_of_ty (hf 4 _ r4 rfl rfl)
    obtain ⟨x5, rfl, _⟩ := ty_int Tryd.underlying22 (hf 5 _ r5 rfl rfl)
    obtain ⟨x6, rfl, kx6⟩ := CellV_of_ty (hf 6 _ r6 rfl rfl)
    exact ⟨⟨x0, x1, x2, x3, x4, x5, x6⟩, rfl, ⟨kx6⟩⟩
theorem PostV_of_ty {M : Mem} {n : Nat} {R : Segs} (h : Ty Tryd.prog M n 60 R) : ∃ x : PostV, R = x.segs ∧ PostV.ok M x := by
  obtain ⟨k, Rs, rfl, hlen, hf⟩ := ty_struct Tryd.underlying60 h
  match Rs, hlen with
  | [r0, r1], _ =>
    obtain ⟨x0, rfl, _⟩ := ty_int Tryd.underlying3 (hf 0 _ r0 rfl rfl)
    obtain ⟨x1, rfl, kx1⟩ := ParcelV_of_ty (hf 1 _ r1 rfl rfl)
    exact ⟨⟨x0, x1⟩, rfl, ⟨kx1⟩⟩
theorem PeerV_of_ty {M : Mem} {n : Nat} {R : Segs} (h : Ty Tryd.prog M n 62 R) : ∃ x : PeerV, R = x.segs := by
  obtain ⟨k, Rs, rfl, hlen, hf⟩ := ty_struct Tryd.underlying62 h
  match Rs, hlen with
  | [r0, r1], _ =>
    obtain ⟨x0, rfl, _⟩ := ty_int Tryd.underlying3 (hf 0 _ r0 rfl rfl)
    obtain ⟨x1, rfl⟩ := id_of_ty24 (hf 1 _ r1 rfl rfl)
    exact ⟨⟨x0, x1⟩, rfl⟩
theorem StepL06V_of_ty {M : Mem} {n : Nat} {R : Segs} (h : Ty Tryd.prog M n 106 R) : ∃ x : StepL06V, R = x.segs := by
  obtain ⟨k, Rs, rfl, hlen, hf⟩ := ty_struct Tryd.underlying106 h
  match Rs, hlen with
  | [r0, r1, r2, r3], _ =>
    obtain ⟨x0, rfl, _⟩ := ty_int Tryd.underlying3 (hf 0 _ r0 rfl rfl)
    obtain ⟨x1, rfl, _⟩ := ty_int Tryd.underlying29 (hf 1 _ r1 rfl rfl)
    obtain ⟨x2, rfl, _⟩ := ty_str Tryd.underlying9 (hf 2 _ r2 rfl rfl)
    obtain ⟨x3, rfl, _⟩ := ty_int Tryd.underlying3 (hf 3 _ r3 rfl rfl)
    exact ⟨⟨x0, x1, x2, x3⟩, rfl⟩
theorem sl_of_ty51 {M : Mem} {n : Nat} {R : Segs} (h : Ty Tryd.prog M n 51 R) : ∃ x : (Sl PeerV), R = [.one x.val] ∧ SlM M x.a (x.l.map PeerV.segs) 21 ∧ x.l.length ≤ maxLen := by
  have e : Tryd.prog.cellsOf 62 = 21 := by kernel_rfl
  obtain ⟨ad, rows, c, m, rfl, h2, h3, h4⟩ := ty_slice Tryd.underlying51 (by rw [e]; decide) h
  obtain ⟨l, rfl⟩ := rows_map (f := PeerV.segs) (fun r hr => by
      exact PeerV_of_ty (h4 r hr))
  rw [e] at h2
  exact ⟨⟨ad, c, l⟩, by simp [Sl.val], h2, by simpa using h3⟩
theorem sl_of_ty52 {M : Mem} {n : Nat} {R : Segs} (h : Ty Tryd.prog M n 52 R) : ∃ x : (Sl PostV), R = [.one x.val] ∧ SlM M x.a (x.l.map PostV.segs) 37 ∧ x.l.length ≤ maxLen ∧ ∀ y ∈ x.l, PostV.ok M y := by
  have e : Tryd.prog.cellsOf 60 = 37 := by kernel_rfl
  obtain ⟨ad, rows, c, m, rfl, h2, h3, h4⟩ := ty_slice Tryd.underlying52 (by rw [e]; decide) h
  obtain ⟨l, rfl, hl⟩ := rows_mapP (f := PostV.segs) (p := fun y => PostV.ok M y) (fun r hr => by
      exact PostV_of_ty (h4 r hr))
  rw [e] at h2
  exact ⟨⟨ad, c, l⟩, by simp [Sl.val], h2, by simpa using h3, hl⟩
theorem sl_of_ty64 {M : Mem} {n : Nat} {R : Segs} (h : Ty Tryd.prog M n 64 R) : ∃ x : (Sl StepL06V), R = [.one x.val] ∧ SlM M x.a (x.l.map StepL06V.segs) 4 ∧ x.l.length ≤ maxLen := by
  have e : Tryd.prog.cellsOf 106 = 4 := by kernel_rfl
  obtain ⟨ad, rows, c, m, rfl, h2, h3, h4⟩ := ty_slice Tryd.underlying64 (by rw [e]; decide) h
  obtain ⟨l, rfl⟩ := rows_map (f := StepL06V.segs) (fun r hr => by
      exact StepL06V_of_ty (h4 r hr))
  rw [e] at h2
  exact ⟨⟨ad, c, l⟩, by simp [Sl.val], h2, by simpa using h3⟩
end Go.Proofs.YtelpkhhfjfbkcaaDoor
