/-
  Texts of this claim, one behind the other: BlamM, JoinM, Rules8, Rules9, RegW, Rules15, Rules10, Rules11, Rules12, Core2, Rules13, Rules14, B1, RfF, B2, Thaw, B3, B4, B5.
-/
import Derived.Test.YtbeahcfghjiogaaDoorPC1
import Derived.Lib.Join
import Derived.Lib.ItoaNum
import Derived.Scope
import Derived.Lib.AppendZeros
import Derived.Laws.BytesArg
import Derived.Laws.Strings
import Derived.Lib.AppendZerosOnto
import Derived.Lib.Overlaps
import Derived.Test.YtbeahcfghjiogaaDoorRows
set_option linter.unusedSimpArgs false
set_option linter.unusedVariables false
set_option linter.unnecessarySimpa false
namespace Go.Esp
def errB : ByteArray := ⟨#[101, 114, 114, 111, 114, 32]⟩
def colB : ByteArray := ⟨#[58, 32]⟩
def semB : ByteArray := ⟨#[59, 32]⟩
def itoaB (c : Int) : ByteArray := ⟨(Lib.itoa c).toArray⟩
def joinB : List ByteArray → ByteArray
  | [] => ⟨#[]⟩
  | [a] => a
  | a :: b :: r => a ++ semB ++ joinB (b :: r)
theorem joinB_lib : ∀ l : List ByteArray, (joinB l).data.toList = Lib.join (l.map (·.data.toList)) semB.data.toList
  | [] => rfl
  | [a] => by simp [joinB, Lib.join_one]
  | a :: b :: r => by
    have ih := joinB_lib (b :: r)
    show (a ++ semB ++ joinB (b :: r)).data.toList = _
    rw [List.map_cons, Lib.join_cons] at ih ⊢
    rw [List.map_cons]
    simp only [ByteArray.data_append, Array.toList_append, ih, Lib.joinTail, List.map_cons, List.flatten_cons, List.append_assoc]
theorem joinB_eq (l : List ByteArray) : joinB l = ⟨(Lib.join (l.map (·.data.toList)) semB.data.toList).toArray⟩ := by
  apply ByteArray.ext
  apply Array.ext'
  rw [joinB_lib]
def sumS : List ByteArray → Nat
  | [] => 0
  | a :: r => a.size + 2 + sumS r
theorem joinB_size : ∀ l : List ByteArray, (joinB l).size ≤ sumS l
  | [] => Nat.zero_le _
  | [a] => by simp [joinB, sumS]
  | a :: b :: r => by
    have ih := joinB_size (b :: r)
    show (a ++ semB ++ joinB (b :: r)).size ≤ a.size + 2 + sumS (b :: r)
    rw [ByteArray.size_append, ByteArray.size_append]
    have : semB.size = 2 := rfl
    omega
mutual
def Err.text (F : Int → ByteArray) : Err → ByteArray
  | .code c => errB ++ F c
  | .wrap op e => op ++ colB ++ e.text F
  | .join l => joinB (textsL F l)
def textsL (F : Int → ByteArray) : List Err → List ByteArray
  | [] => []
  | e :: r => e.text F :: textsL F r
end
theorem textsL_map {F : Int → ByteArray} : ∀ l : List Err, textsL F l = l.map (Err.text F)
  | [] => rfl
  | e :: r => by simp [textsL, textsL_map r]
mutual
def Err.wt : Err → Nat
  | .code _ => 32
  | .wrap op e => op.size + 2 + e.wt
  | .join l => wtL l + 2
def wtL : List Err → Nat
  | [] => 0
  | e :: r => e.wt + wtL r
end
def okC (c : Int) : Prop := c ≠ 0 ∧ -9223372036854775808 ≤ c ∧ c ≤ 9223372036854775807
def Err.ok (e : Err) : Prop := ∀ c ∈ e.codes, okC c
theorem digits_size (k : Nat) : ∀ n : Nat, n < 10 ^ (k + 1) → (Lib.decDigits n).length ≤ k + 1 := by
  induction k with
  | zero =>
    intro n h
    rw [Lib.decDigits, dif_pos (by simpa using h)]; simp
  | succ k ih =>
    intro n h
    rw [Lib.decDigits]
    split
    · simp
    · have := ih (n / 10) (by rw [Nat.pow_succ] at h; omega)
      simp; omega
theorem itoa_size {c : Int} (h : okC c) : (itoaB c).size ≤ 20 := by
  show (Lib.itoa c).toArray.size ≤ 20
  simp only [List.size_toArray]
  unfold Lib.itoa
  obtain ⟨h0, h1, h2⟩ := h
  split
  · have := digits_size 18 c.natAbs (by omega)
    simp; omega
  · have := digits_size 18 c.toNat (by omega)
    omega
def ShortF (F : Int → ByteArray) : Prop := ∀ c, okC c → (F c).size ≤ 24
theorem itoa_short : ShortF itoaB := fun c h => Nat.le_trans (itoa_size h) (by decide)
mutual
theorem text_size {F : Int → ByteArray} (hF : ShortF F) : ∀ (e : Err), e.ok → (e.text F).size + 2 ≤ e.wt
  | .code c, h => by
    have := hF c (h c (by simp [Err.codes]))
    simp only [Err.text, Err.wt, ByteArray.size_append]
    have : errB.size = 6 := rfl
    omega
  | .wrap op e, h => by
    have := text_size hF e (fun c hc => h c (by simpa [Err.codes] using hc))
    simp only [Err.text, Err.wt, ByteArray.size_append]
    have : colB.size = 2 := rfl
    omega
  | .join l, h => by
    have h1 := texts_size hF l (fun c hc => h c (by simpa [Err.codes] using hc))
    have h2 := joinB_size (textsL F l)
    simp only [Err.text, Err.wt]
    omega
theorem texts_size {F : Int → ByteArray} (hF : ShortF F) : ∀ (l : List Err), (∀ c ∈ codesL l, okC c) → sumS (textsL F l) ≤ wtL l
  | [], _ => Nat.le_refl _
  | e :: r, h => by
    have h1 := text_size hF e (fun c hc => h c (by simp [codesL, hc]))
    have h2 := texts_size hF r (fun c hc => h c (by simp [codesL, hc]))
    simp only [textsL, sumS, wtL]
    omega
end
mutual
theorem big_wt : ∀ (e : Err), e.big ≤ e.wt
  | .code c => by simp [Err.big, Err.wt]
  | .wrap op e => by have := big_wt e; simp only [Err.big, Err.wt]; omega
  | .join l => by have := bigL_wt l; simp only [Err.big, Err.wt]; omega
theorem bigL_wt : ∀ (l : List Err), bigL l ≤ wtL l
  | [] => Nat.le_refl _
  | e :: r => by have := big_wt e; have := bigL_wt r; simp only [bigL, wtL]; omega
end
mutual
theorem codes_big : ∀ (e : Err), e.codes.length ≤ e.big
  | .code c => by simp [Err.big, Err.codes]
  | .wrap op e => by have := codes_big e; simp only [Err.big, Err.codes]; omega
  | .join l => by have := codesL_big l; simp only [Err.big, Err.codes]; omega
theorem codesL_big : ∀ (l : List Err), (codesL l).length ≤ bigL l
  | [] => Nat.le_refl _
  | e :: r => by have := codes_big e; have := codesL_big r; simp only [bigL, codesL, List.length_append]; omega
end
theorem wtL_at {l : List Err} {k : Nat} (hk : k < l.length) : l[k].wt ≤ wtL l := by
  induction l generalizing k with
  | nil => cases hk
  | cons e r ih =>
    cases k with
    | zero => simp [wtL]
    | succ k => have := ih (k := k) (by simpa using hk); simp [wtL] at this ⊢; omega
theorem bigL_len (l : List Err) : l.length ≤ bigL l := by
  induction l with
  | nil => exact Nat.le_refl _
  | cons e r ih =>
    have : 1 ≤ e.big := by cases e <;> simp [Err.big]
    simp only [bigL, List.length_cons]; omega
theorem codes_at {l : List Err} {k : Nat} (hk : k < l.length) {c : Int} (h : c ∈ l[k].codes) : c ∈ codesL l := by
  have : c ∈ codesL (l.take (k + 1)) := by rw [codesL_take hk]; exact List.mem_append_right _ h
  exact codesL_sub this
def Err.trail : Err → List ByteArray
  | .wrap op e => op :: e.trail
  | _ => []
theorem trail_big : ∀ e : Err, e.trail.length ≤ e.big
  | .code _ => by simp [Err.trail]
  | .wrap op e => by have := trail_big e; simp only [Err.trail, Err.big, List.length_cons]; omega
  | .join _ => by simp [Err.trail]
def OE (M : Mem) : Option Err → Value → Prop
  | none, v => v = .nilIface
  | some e, v => ErrV M e v
theorem OE.mono {M M' : Mem} (hm : M.le M') : ∀ {o : Option Err} {v : Value}, OE M o v → OE M' o v
  | none, v, h => h
  | some e, v, h => ErrV.mono hm e h
theorem OE.one {M : Mem} : ∀ {o : Option Err} {v : Value}, OE M o v → v.oneCell' = true
  | none, v, h => by have h' : v = .nilIface := h; subst h'; rfl
  | some e, v, h => by obtain ⟨t, u, rfl⟩ := ErrV.iface h; rfl
def codesO : Option Err → List Int
  | none => []
  | some e => e.codes
def trailO : Option Err → List ByteArray
  | none => []
  | some e => e.trail
def textO (F : Int → ByteArray) : Option Err → ByteArray
  | none => ⟨#[]⟩
  | some e => e.text F
def wtO : Option Err → Nat
  | none => 0
  | some e => e.wt
def bigO : Option Err → Nat
  | none => 0
  | some e => e.big
def okO (o : Option Err) : Prop := ∀ c ∈ codesO o, okC c
theorem okO_none : okO none := fun _ h => (by cases h)
def newO (c : Int) : Option Err := if c = 0 then none else some (.code c)
theorem newE_ok (M : Mem) (c : Int) : OE M (newO c) (newE c) := by
  unfold newO newE
  split
  · exact rfl
  · exact rfl
def wrapO (op : ByteArray) : Option Err → Option Err
  | none => none
  | some e => some (.wrap op e)
def joinE : List Err → Option Err
  | [] => none
  | e :: r => some (.join (e :: r))
def somes : List (Option Err) → List Err
  | [] => []
  | none :: r => somes r
  | some e :: r => e :: somes r
def joinO (es : List (Option Err)) : Option Err := joinE (somes es)
def codeO (o : Option Err) : Int := (codesO o).headD 0
def hasO (o : Option Err) (c : Int) : Bool := if c = 0 then o.isNone else decide (c ∈ codesO o)
def againO (o : Option Err) : Bool := hasO o 8 || hasO o 10 || hasO o 11
theorem somes_append (a b : List (Option Err)) : somes (a ++ b) = somes a ++ somes b := by
  induction a with
  | nil => rfl
  | cons x a ih => cases x <;> simp [somes, ih]
theorem somes_take {l : List (Option Err)} {k : Nat} (hk : k < l.length) : somes (l.take (k + 1)) = somes (l.take k) ++ somes [l[k]] := by
  rw [List.take_add_one, List.getElem?_eq_getElem hk, somes_append]
  rfl
structure OEL (M : Mem) (es : List (Option Err)) (ws : List Value) : Prop where
  len : ws.length = es.length
  at_ : ∀ k (h1 : k < es.length) (h2 : k < ws.length), OE M es[k] ws[k]
theorem OEL.mono {M M' : Mem} (hm : M.le M') {es : List (Option Err)} {ws : List Value} (h : OEL M es ws) : OEL M' es ws := ⟨h.len, fun k h1 h2 => (h.at_ k h1 h2).mono hm⟩
theorem OEL.nil {M : Mem} : OEL M [] [] := ⟨rfl, fun k h _ => (by cases h)⟩
theorem OEL.app {M : Mem} {es fs : List (Option Err)} {ws us : List Value} (h : OEL M es ws) (h' : OEL M fs us) : OEL M (es ++ fs) (ws ++ us) := by
  refine ⟨by simp [h.len, h'.len], fun k h1 h2 => ?_⟩
  have hl := h.len
  simp only [List.getElem_append]
  by_cases hk : k < es.length
  · rw [dif_pos hk, dif_pos (by omega)]; exact h.at_ k hk _
  · rw [dif_neg hk, dif_neg (by omega)]
    have := h'.at_ (k - es.length) (by simp at h1; omega) (by simp at h2; omega)
    simpa [hl] using this
theorem OEL.one {M : Mem} {o : Option Err} {v : Value} (h : OE M o v) : OEL M [o] [v] := ⟨rfl, fun k h1 h2 => by
  obtain rfl : k = 0 := by simp at h1; omega
  exact h⟩
theorem OEL.take {M : Mem} {es : List (Option Err)} {ws : List Value} (h : OEL M es ws) (k : Nat) : OEL M (es.take k) (ws.take k) := by
  refine ⟨by simp [h.len], fun j h1 h2 => ?_⟩
  simp only [List.getElem_take]
  exact h.at_ j (by simp at h1; omega) (by simp at h2; omega)
theorem OEL.drop {M : Mem} {es : List (Option Err)} {ws : List Value} (h : OEL M es ws) (k : Nat) : OEL M (es.drop k) (ws.drop k) := by
  refine ⟨by simp [h.len], fun j h1 h2 => ?_⟩
  simp only [List.getElem_drop]
  exact h.at_ (k + j) (by simp at h1; omega) (by simp at h2; omega)
theorem OEL.set {M : Mem} {es : List (Option Err)} {ws : List Value} (h : OEL M es ws) {k : Nat} {o : Option Err} {v : Value} (hv : OE M o v) : OEL M (es.set k o) (ws.set k v) := by
  refine ⟨by simp [h.len], fun j h1 h2 => ?_⟩
  simp only [List.getElem_set]
  by_cases hk : k = j
  · rw [if_pos hk, if_pos hk]; exact hv
  · rw [if_neg hk, if_neg hk]; exact h.at_ j (by simpa using h1) (by simpa using h2)
theorem OEL.ones {M : Mem} {es : List (Option Err)} {ws : List Value} (h : OEL M es ws) {v : Value} (hv : v ∈ ws) : v.oneCell' = true := by
  obtain ⟨k, hk, rfl⟩ := List.getElem_of_mem hv
  exact (h.at_ k (by have := h.len; omega) hk).one
theorem ErrL.of {M : Mem} : ∀ {l : List Err} {ws : List Value}, ws.length = l.length → (∀ k (h1 : k < l.length) (h2 : k < ws.length), ErrV M l[k] ws[k]) → ErrL M l ws
  | [], [], _, _ => rfl
  | [], _ :: _, h, _ => by cases h
  | _ :: _, [], h, _ => by cases h
  | e :: r, w :: ws, h, ha => ⟨w, ws, rfl, ha 0 (by simp) (by simp), ErrL.of (by simpa using h) fun k h1 h2 => ha (k + 1) (by simpa using h1) (by simpa using h2)⟩
theorem ErrL.snoc {M : Mem} {l : List Err} {ws : List Value} (h : ErrL M l ws) {e : Err} {v : Value} (hv : ErrV M e v) : ErrL M (l ++ [e]) (ws ++ [v]) := by
  have hl := h.len
  refine ErrL.of (by simp [hl]) fun k h1 h2 => ?_
  simp only [List.getElem_append]
  by_cases hk : k < l.length
  · rw [dif_pos hk, dif_pos (by omega)]; exact h.at k hk (by omega)
  · rw [dif_neg hk, dif_neg (by omega)]
    have e1 : k - l.length = 0 := by simp at h1; omega
    have e2 : k - ws.length = 0 := by omega
    simp only [e1, e2, List.getElem_cons_zero]
    exact hv
structure TrR where
  kind : Int
  code : Int
  op : ByteArray
  a : Option Addr
  n : Nat
  cap : Nat
def TrR.segs : TrR → Segs
  | ⟨k, c, o, a, n, p⟩ => [.one (.int .i64 k), .one (.int .i64 c), .one (.string o), .one (.slice a n p)]
theorem TrR.len (x : TrR) : Segs.len x.segs = 4 := by
  obtain ⟨k, c, o, a, n, p⟩ := x
  simp only [TrR.segs, Segs.len, Seg.len]
theorem TrR.flat (x : TrR) : Esp.flat x.segs := by
  obtain ⟨k, c, o, a, n, p⟩ := x
  simp only [TrR.segs]
  refine Zaf rfl ?_; refine Zaf rfl ?_; refine Zaf rfl ?_; refine Zaf rfl ?_
  exact Zap
theorem TrR.flat1 (x : TrR) : ∀ u ∈ rowsCells [x.segs], u.oneCell' = true := Zar x.flat
def zT : TrR := ⟨0, 0, ⟨#[]⟩, none, 0, 0⟩
def newT (c : Int) : TrR := if c = 0 then zT else ⟨1, c, ⟨#[]⟩, none, 0, 0⟩
mutual
def TrE (M : Mem) : Err → TrR → Prop
  | .code c, t => t = ⟨1, c, ⟨#[]⟩, none, 0, 0⟩
  | .wrap op e, t => ∃ a t', t = ⟨2, 0, op, a, 1, 1⟩ ∧ SlM M a [t'.segs] 4 ∧ TrE M e t'
  | .join l, t => l ≠ [] ∧ ∃ a ts cp, t = ⟨3, 0, ⟨#[]⟩, a, ts.length, cp⟩ ∧ SlM M a (ts.map TrR.segs) 4 ∧ ts.length ≤ maxLen ∧ TrL M l ts
def TrL (M : Mem) : List Err → List TrR → Prop
  | [], ts => ts = []
  | e :: r, ts => ∃ t ts', ts = t :: ts' ∧ TrE M e t ∧ TrL M r ts'
end
mutual
theorem TrE.mono {M M' : Mem} (hm : M.le M') : ∀ (e : Err) {t : TrR}, TrE M e t → TrE M' e t
  | .code c, t, h => h
  | .wrap op e, t, h => by
    obtain ⟨a, t', h1, h2, h3⟩ := h
    exact ⟨a, t', h1, h2.mono hm, TrE.mono hm e h3⟩
  | .join l, t, h => by
    obtain ⟨h0, a, ts, cp, h1, h2, h3, h4⟩ := h
    exact ⟨h0, a, ts, cp, h1, h2.mono hm, h3, TrL.mono hm l h4⟩
theorem TrL.mono {M M' : Mem} (hm : M.le M') : ∀ (l : List Err) {ts : List TrR}, TrL M l ts → TrL M' l ts
  | [], ts, h => h
  | e :: r, ts, h => by
    obtain ⟨t, ts', h1, h2, h3⟩ := h
    exact ⟨t, ts', h1, TrE.mono hm e h2, TrL.mono hm r h3⟩
end
theorem TrL.len {M : Mem} : ∀ {l : List Err} {ts : List TrR}, TrL M l ts → ts.length = l.length
  | [], _, rfl => rfl
  | e :: r, ts, h => by
    obtain ⟨t, ts', rfl, _, h3⟩ := h
    simp [TrL.len h3]
theorem TrL.at {M : Mem} : ∀ {l : List Err} {ts : List TrR}, TrL M l ts → ∀ (k : Nat) (h1 : k < l.length) (h2 : k < ts.length), TrE M l[k] ts[k]
  | [], _, rfl, k, h1, _ => by cases h1
  | e :: r, ts, h, k, h1, h2 => by
    obtain ⟨t, ts', rfl, g1, g2⟩ := h
    cases k with
    | zero => exact g1
    | succ k => exact TrL.at g2 k (by simpa using h1) (by simpa using h2)
theorem TrL.of {M : Mem} : ∀ {l : List Err} {ts : List TrR}, ts.length = l.length → (∀ k (h1 : k < l.length) (h2 : k < ts.length), TrE M l[k] ts[k]) → TrL M l ts
  | [], [], _, _ => rfl
  | [], _ :: _, h, _ => by cases h
  | _ :: _, [], h, _ => by cases h
  | e :: r, t :: ts, h, ha => ⟨t, ts, rfl, ha 0 (by simp) (by simp), TrL.of (by simpa using h) fun k h1 h2 => ha (k + 1) (by simpa using h1) (by simpa using h2)⟩
theorem TrL.snoc {M : Mem} {l : List Err} {ts : List TrR} (h : TrL M l ts) {e : Err} {t : TrR} (ht : TrE M e t) : TrL M (l ++ [e]) (ts ++ [t]) := by
  have hl := h.len
  refine TrL.of (by simp [hl]) fun k h1 h2 => ?_
  simp only [List.getElem_append]
  by_cases hk : k < l.length
  · rw [dif_pos hk, dif_pos (by omega)]; exact h.at k hk (by omega)
  · rw [dif_neg hk, dif_neg (by omega)]
    have e1 : k - l.length = 0 := by simp at h1; omega
    have e2 : k - ts.length = 0 := by omega
    simp only [e1, e2, List.getElem_cons_zero]
    exact ht
def TO (M : Mem) : Option Err → TrR → Prop
  | none, t => t = zT
  | some e, t => TrE M e t
theorem TO.mono {M M' : Mem} (hm : M.le M') : ∀ {o : Option Err} {t : TrR}, TO M o t → TO M' o t
  | none, t, h => h
  | some e, t, h => TrE.mono hm e h
theorem TrE.kind {M : Mem} : ∀ {e : Err} {t : TrR}, TrE M e t → t.kind ≠ 0
  | .code c, t, h => by have h' : t = ⟨1, c, ⟨#[]⟩, none, 0, 0⟩ := h; subst h'; exact (by simp)
  | .wrap op e, t, ⟨a, t', h1, _⟩ => by subst h1; simp
  | .join l, t, ⟨_, a, ts, cp, h1, _⟩ => by subst h1; simp
theorem TO.kind {M : Mem} : ∀ {o : Option Err} {t : TrR}, TO M o t → (t.kind = 0 ↔ o = none)
  | none, t, h => by have h' : t = zT := h; subst h'; simp [zT]
  | some e, t, h => by simp [TrE.kind h]
structure TOL (M : Mem) (es : List (Option Err)) (ts : List TrR) : Prop where
  len : ts.length = es.length
  at_ : ∀ k (h1 : k < es.length) (h2 : k < ts.length), TO M es[k] ts[k]
theorem TOL.mono {M M' : Mem} (hm : M.le M') {es : List (Option Err)} {ts : List TrR} (h : TOL M es ts) : TOL M' es ts := ⟨h.len, fun k h1 h2 => (h.at_ k h1 h2).mono hm⟩
theorem TOL.nil {M : Mem} : TOL M [] [] := ⟨rfl, fun k h _ => (by cases h)⟩
theorem TOL.app {M : Mem} {es fs : List (Option Err)} {ts us : List TrR} (h : TOL M es ts) (h' : TOL M fs us) : TOL M (es ++ fs) (ts ++ us) := by
  refine ⟨by simp [h.len, h'.len], fun k h1 h2 => ?_⟩
  have hl := h.len
  simp only [List.getElem_append]
  by_cases hk : k < es.length
  · rw [dif_pos hk, dif_pos (by omega)]; exact h.at_ k hk _
  · rw [dif_neg hk, dif_neg (by omega)]
    have := h'.at_ (k - es.length) (by simp at h1; omega) (by simp at h2; omega)
    simpa [hl] using this
theorem TOL.one {M : Mem} {o : Option Err} {t : TrR} (h : TO M o t) : TOL M [o] [t] := ⟨rfl, fun k h1 h2 => by
  obtain rfl : k = 0 := by simp at h1; omega
  exact h⟩
theorem TOL.take {M : Mem} {es : List (Option Err)} {ts : List TrR} (h : TOL M es ts) (k : Nat) : TOL M (es.take k) (ts.take k) := by
  refine ⟨by simp [h.len], fun j h1 h2 => ?_⟩
  simp only [List.getElem_take]
  exact h.at_ j (by simp at h1; omega) (by simp at h2; omega)
theorem TOL.drop {M : Mem} {es : List (Option Err)} {ts : List TrR} (h : TOL M es ts) (k : Nat) : TOL M (es.drop k) (ts.drop k) := by
  refine ⟨by simp [h.len], fun j h1 h2 => ?_⟩
  simp only [List.getElem_drop]
  exact h.at_ (k + j) (by simp at h1; omega) (by simp at h2; omega)
theorem TOL.set {M : Mem} {es : List (Option Err)} {ts : List TrR} (h : TOL M es ts) {k : Nat} {o : Option Err} {t : TrR} (hv : TO M o t) : TOL M (es.set k o) (ts.set k t) := by
  refine ⟨by simp [h.len], fun j h1 h2 => ?_⟩
  simp only [List.getElem_set]
  by_cases hk : k = j
  · rw [if_pos hk, if_pos hk]; exact hv
  · rw [if_neg hk, if_neg hk]; exact h.at_ j (by simpa using h1) (by simpa using h2)
theorem newT_ok (M : Mem) (c : Int) : TO M (newO c) (newT c) := by
  unfold newO newT
  split
  · exact rfl
  · exact rfl
def wtS : List (Option Err) → Nat
  | [] => 0
  | o :: r => wtO o + wtS r
theorem wtS_app (a b : List (Option Err)) : wtS (a ++ b) = wtS a + wtS b := by
  induction a with
  | nil => simp [wtS]
  | cons x a ih => simp [wtS, ih]; omega
theorem wtS_at {l : List (Option Err)} {k : Nat} (hk : k < l.length) : wtO l[k] ≤ wtS l := by
  induction l generalizing k with
  | nil => cases hk
  | cons e r ih =>
    cases k with
    | zero => simp [wtS]
    | succ k => have := ih (k := k) (by simpa using hk); simp [wtS] at this ⊢; omega
theorem wtL_somes (l : List (Option Err)) : wtL (somes l) = wtS l := by
  induction l with
  | nil => rfl
  | cons o r ih => cases o <;> simp [somes, wtL, wtS, wtO, ih]
theorem wt_join (l : List (Option Err)) : wtO (joinO l) ≤ wtS l + 2 := by
  unfold joinO
  have := wtL_somes l
  cases h : somes l with
  | nil => simp [joinE, wtO]
  | cons e r => rw [h] at this; simp only [joinE, wtO, Err.wt]; omega
theorem wtS_set {l : List (Option Err)} {k : Nat} {o : Option Err} (hk : k < l.length) : wtS (l.set k o) + wtO l[k] = wtS l + wtO o := by
  induction l generalizing k with
  | nil => cases hk
  | cons e r ih =>
    cases k with
    | zero => simp [wtS]; omega
    | succ k => have := ih (k := k) (by simpa using hk); simp [wtS] at this ⊢; omega
theorem wt_wrap (op : ByteArray) (o : Option Err) : wtO (wrapO op o) ≤ op.size + 2 + wtO o := by
  cases o <;> simp [wrapO, wtO, Err.wt]
theorem wt_new (c : Int) : wtO (newO c) ≤ 32 := by
  unfold newO; split <;> simp [wtO, Err.wt]
theorem wt_cut (l : List (Option Err)) (k : Nat) : wtS (l.take k ++ [joinO (l.drop k)]) ≤ wtS l + 2 := by
  have h1 := wt_join (l.drop k)
  have h2 := wtS_app (l.take k) (l.drop k)
  rw [List.take_append_drop] at h2
  rw [wtS_app]
  simp only [wtS]
  omega
theorem codes_join (l : List (Option Err)) : codesO (joinO l) = codesL (somes l) := by
  unfold joinO
  cases h : somes l with
  | nil => rfl
  | cons e r => rfl
theorem codes_somes {l : List (Option Err)} {c : Int} (h : c ∈ codesL (somes l)) : ∃ o ∈ l, c ∈ codesO o := by
  induction l with
  | nil => cases h
  | cons o r ih =>
    cases o with
    | none => obtain ⟨o, h1, h2⟩ := ih h; exact ⟨o, .tail _ h1, h2⟩
    | some e =>
      simp only [somes, codesL, List.mem_append] at h
      rcases h with h | h
      · exact ⟨_, .head _, h⟩
      · obtain ⟨o, h1, h2⟩ := ih h; exact ⟨o, .tail _ h1, h2⟩
def okS (l : List (Option Err)) : Prop := ∀ o ∈ l, okO o
theorem okS_join {l : List (Option Err)} (h : okS l) : okO (joinO l) := fun c hc => by
  rw [codes_join] at hc
  obtain ⟨o, h1, h2⟩ := codes_somes hc
  exact h o h1 c h2
theorem okO_wrap {op : ByteArray} {o : Option Err} (h : okO o) : okO (wrapO op o) := by
  cases o with
  | none => exact h
  | some e => exact fun c hc => h c (by simpa [wrapO, codesO, Err.codes] using hc)
theorem okO_new {c : Int} (h1 : -9223372036854775808 ≤ c) (h2 : c ≤ 9223372036854775807) : okO (newO c) := by
  unfold newO
  split
  · exact okO_none
  · intro d hd
    simp [codesO, Err.codes] at hd
    subst hd
    exact ⟨by assumption, h1, h2⟩
theorem okS_app {a b : List (Option Err)} (h : okS a) (h' : okS b) : okS (a ++ b) := fun o ho => by
  rcases List.mem_append.1 ho with ho | ho
  · exact h o ho
  · exact h' o ho
theorem okS_one {o : Option Err} (h : okO o) : okS [o] := fun p hp => by
  obtain rfl := List.mem_singleton.1 hp; exact h
theorem okS_take {l : List (Option Err)} (h : okS l) (k : Nat) : okS (l.take k) := fun o ho => h o (List.mem_of_mem_take ho)
theorem okS_drop {l : List (Option Err)} (h : okS l) (k : Nat) : okS (l.drop k) := fun o ho => h o (List.mem_of_mem_drop ho)
theorem okS_set {l : List (Option Err)} (h : okS l) {k : Nat} {o : Option Err} (ho : okO o) : okS (l.set k o) := fun p hp => by
  rcases List.mem_or_eq_of_mem_set hp with hp | rfl
  · exact h p hp
  · exact ho
theorem OE.form {M : Mem} : ∀ {o : Option Err} {v : Value}, OE M o v → v = .nilIface ∨ ∃ t u, v = .iface t u
  | none, v, h => .inl h
  | some e, v, h => .inr (ErrV.iface h)
def sumOps : List StepL06V → Nat
  | [] => 0
  | s :: r => s.op.size + sumOps r
theorem sumOps_app (a b : List StepL06V) : sumOps (a ++ b) = sumOps a + sumOps b := by
  induction a with
  | nil => simp [sumOps]
  | cons x a ih => simp [sumOps, ih]; omega
theorem sumOps_succ {l : List StepL06V} {k : Nat} (hk : k < l.length) : sumOps (l.take (k + 1)) = sumOps (l.take k) + l[k].op.size := by
  rw [List.take_add_one, List.getElem?_eq_getElem hk, sumOps_app]
  rfl
def FewP (l : List StepL06V) : Prop := l.length ≤ 60 ∧ sumOps l ≤ 2000
instance (l : List StepL06V) : Decidable (FewP l) := inferInstanceAs (Decidable (_ ∧ _))
structure Scr (M : Mem) (s : Sl StepL06V) : Prop where
  k : SlK M StepL06V.segs 4 s
  h : ∀ y ∈ s.l, y.op.size ≤ 140737488351232 ∧ -9223372036854775808 ≤ y.code ∧ y.code ≤ 9223372036854775807
theorem Scr.mono {M M' : Mem} {s : Sl StepL06V} (h : Scr M s) (hm : M.le M') : Scr M' s := ⟨h.k.mono hm, h.h⟩
structure Built (M : Mem) (es : List (Option Err)) (s : Sl Value) (q : Sl TrR) : Prop where
  ks : SlK M (fun u => [.one u]) 1 s
  kq : SlK M TrR.segs 4 q
  os : OEL M es s.l
  ts : TOL M es q.l
  ok : okS es
  wt : wtS es ≤ 5000
  len : es.length ≤ 60
theorem Built.mono {M M' : Mem} {es : List (Option Err)} {s : Sl Value} {q : Sl TrR} (h : Built M es s q) (hm : M.le M') : Built M' es s q := ⟨h.ks.mono hm, h.kq.mono hm, h.os.mono hm, h.ts.mono hm, h.ok, h.wt, h.len⟩
end Go.Esp
namespace Go.Esp
open Go.Proofs Go.Shelf Go.RowKit Go.Lib
theorem St.belowJ {M : Mem} {H : Hp} {w w' : World} (hM : M.dr = 0) (h : St M H w) (hb : RowKit.Below w.heap.size w w') : St M H w' := by
  have hk : ∀ b o, w.heap[b]? = some o → w'.heap[b]? = some o := fun b o hbo => by
    rw [hb.block b (Array.getElem?_eq_some_iff.1 hbo).1]; exact hbo
  exact ⟨fun b o hm => hk b o (h.mem b o hm), fun b o hm => hk b o (h.own b o hm), h.sep, h.nodup, hb.os.trans h.io.1, hb.tape.trans h.io.2.1, hb.output.trans h.io.2.2.1, by rw [hM]; exact Nat.zero_le _⟩
theorem joinExtra : Builder.Extra Tryd.prog Tryd.joinL_ren := {
  sizeBuilder := by kernel_rfl
  liesBuilder := by kernel_rfl
  t5 := by kernel_rfl
  a5 := fun w => by kernel_rfl
  z5 := fun w => by kernel_rfl
  v5 := fun w => by kernel_rfl
  infoByte := by kernel_rfl
  cellsByte := by kernel_rfl
  sizeByte := by kernel_rfl
  neB5 := by decide }
theorem Join_ok (M : Mem) (hs : Hp) (T : Nat) (v : Value) (l : List ByteArray) (hM : M.dr = 0) (ho : OSl T 1 v hs (l.map oneS)) (hl : l.length ≤ 100000) (hz : sumS l ≤ 100000000) :
    Fo Tryd.prog (Tryd.joinL_ren.f 156) [v, .string semB] M hs (fun M' r => M' = M ∧ r = .string (joinB l)) := fun H w hw => by
  have hjl : (Lib.join (l.map (·.data.toList)) semB.data.toList).length ≤ 140737488355328 := by
    have h1 := joinB_size l
    have h2 : (joinB l).size = (Lib.join (l.map (·.data.toList)) semB.data.toList).length := by rw [joinB_eq]; exact List.size_toArray ..
    omega
  have hnil : ∀ rows, OSl T 1 v hs rows → rows = l.map oneS → Calls Tryd.prog (Tryd.joinL_ren.f 156) #[v, .string semB] w fun e w' => e = .returned (.string (joinB l)) ∧ RowKit.Below w.heap.size w w' := by
    intro rows ho he
    cases ho with
    | nil =>
      have : l = [] := by simpa using he.symm
      subst this
      exact (Any.strings_Join_none Tryd.joinL joinExtra none 0 semB w).mono fun e w' ⟨he, hw'⟩ => ⟨he, hw' ▸ RowKit.Below.refl _ _⟩
    | own b c _ cur h1 h2 h3 h4 h5 =>
      subst he
      have hb : w.heap[b]? = some (.cells cur T (0, 0)) := hw.own _ _ (.head _)
      have hlen : (l.map oneS).length = l.length := List.length_map ..
      have hrc : ∀ l : List ByteArray, rowsCells (l.map oneS) = l.map Value.string := fun l => by
        induction l with
        | nil => rfl
        | cons a r ih => show Value.string a :: rowsCells (r.map oneS) = _; rw [ih]; rfl
      rw [hlen] at h2 h5
      rw [hrc] at h5
      rw [joinB_eq, hlen]
      refine Any.strings_Join Tryd.joinL joinExtra b 0 c l semB w (fun j x hj => ?_) (Array.getElem?_eq_some_iff.1 hb).1 (by omega) h2 hjl
      have h6 := cellsAt (xs := l.map Value.string) (n := l.length * 1) hb (by rw [List.drop_zero]; exact h5) j (.string x) (by rw [List.getElem?_map, hj]; rfl)
      rw [Addr.add_lit] at h6
      exact h6
  exact (hnil _ ho rfl).mono fun e w' ⟨he, hb⟩ => ⟨_, M, he, Mem.le.refl M, St.belowJ hM hw hb, rfl, rfl⟩
theorem Itoa_c (M : Mem) (c : Int) (hc : 0 ≤ c ∧ c < 100) : Fs Tryd.prog (Tryd.itoaL_ren.f 171) [.int .i64 c] M (fun v => v = .string (itoaB c)) := by
  obtain ⟨i, rfl⟩ : ∃ i : Nat, c = (i : Int) := ⟨c.toNat, by omega⟩
  have h := Itoa_ok M i (by omega)
  have e : itoaB (i : Int) = ⟨(Lib.decDigits i).toArray⟩ := by
    unfold itoaB Lib.itoa
    rw [if_neg (by omega), Int.toNat_natCast]
  rw [e]
  exact h
end Go.Esp
namespace Go.Esp
section
variable {P : Program} {n : Sh} {ops : Array Oper} {Q : Exit → Act → World → Prop} {rest : List Nat} {M M' : Mem} {H H' H0 : Hp} {e : Env} {J S : World → Prop} {A : As} {i : Nat}
  {dst : Option Tmp} {d : Tmp} {op : Op} {ty : TypeId} {pos : String} {af : Array Edge} {gd : Option (Nat × Bool)}
end
end Go.Esp
namespace Go.Esp
section
variable {P : Program} {n : Sh} {ops : Array Oper} {Q : Exit → Act → World → Prop} {rest : List Nat} {M M' : Mem} {H H' H0 : Hp} {e : Env} {J S : World → Prop} {A : As} {i : Nat}
  {dst : Option Tmp} {d : Tmp} {op : Op} {ty : TypeId} {pos : String} {af : Array Edge} {gd : Option (Nat × Bool)}
theorem X_cat {t t' : TypeId} {x y : Operand} {a b c : ByteArray} (hi : ops[i]? = some ⟨some d, .binOp .add t x y t', ty, pos, af, gd⟩) (hg : want ops e gd = some true)
    (hx : ev e x = some (.string a)) (hy : ev e y = some (.string b)) (hn : a.size + b.size ≤ 9223372036854775807) (hc : a ++ b = c) (hd : Nat.ble (d + 1) n.sz = true)
    (hk : XD P n ops Q rest J A ((d, .string c) :: e)) : XD P n ops Q (i :: rest) J A e :=
  Zbq hi rfl hg (fun a' w ha => Zat (by
    subst hc
    simp only [execOp, ha.ev hx, ha.ev hy]
    refine Zbo ?_
    have h9 : ¬ (((a.size + b.size : Nat) : Int) > IntKind.i64.max) := by
      rw [show IntKind.i64.max = (9223372036854775807 : Int) by decide]; omega
    rw [Sem.run_bind]
    simp only [eqGuard, binOp, Op.stringOp, if_neg h9]
    rfl)) (fun a ha => ha.put hd _) hk
theorem run_bounds {a' : Act} {w : World} {lo hi : Option Operand} {olo ohi : Option Nat} {l c : Nat} {isS : Bool} (ha : Sat n e a') (h1 : Bnd e lo olo) (h2 : Bnd e hi ohi) (hlc : l ≤ c) (hh : ohi.getD l ≤ c) (hl : olo.getD 0 ≤ ohi.getD l) :
    (Instr.sliceBounds isS l c (lo.map a'.eval) (hi.map a'.eval) none).run P w = .ok (olo.getD 0, ohi.getD l, c) w := by
  unfold Instr.sliceBounds
  simp only []
  rw [Zl (show (pure c : Sem Nat).run P w = .ok c w from rfl)]
  cases h2 with
  | none =>
    simp only [Option.map_none, Option.getD_none] at hh hl ⊢
    rw [Zl (show (pure l : Sem Nat).run P w = .ok l w from rfl)]
    cases h1 with
    | none => rfl
    | some hz hzk =>
      subst hzk
      simp only [Option.map_some, ha.ev hz, Option.getD_some] at hl ⊢
      rw [Zl (run_sliceBound hl)]; rfl
  | some hy hyk =>
    subst hyk
    simp only [Option.map_some, ha.ev hy, Option.getD_some] at hh hl ⊢
    rw [Zl (run_sliceBound hh)]
    cases h1 with
    | none => rfl
    | some hz hzk =>
      subst hzk
      simp only [Option.map_some, ha.ev hz, Option.getD_some] at hl ⊢
      rw [Zl (run_sliceBound hl)]; rfl
theorem Zy {t el b off len : Nat} {x : Operand} {lo hi : Option Operand} {olo ohi : Option Nat} {v : Value} (hi' : ops[i]? = some ⟨some d, .slice t x lo hi none, ty, pos, af, gd⟩) (hg : want ops e gd = some true)
    (hx : ev e x = some (.pointer (some ⟨b, off, none⟩))) (h1 : Bnd e lo olo) (h2 : Bnd e hi ohi) (ht : arOf P t = some (len, el)) (hh : ohi.getD len ≤ len) (hl : olo.getD 0 ≤ ohi.getD len)
    (hv : pieceV (some ⟨b, off, none⟩) 1 (olo.getD 0) (ohi.getD len) len = v) (hd : Nat.ble (d + 1) n.sz = true)
    (hK : XD P n ops Q rest J A ((d, v) :: e)) : XD P n ops Q (i :: rest) J A e :=
  Zbq hi' rfl hg (fun a' w ha => Zat (by
    subst hv
    simp only [execOp, ha.ev hx]
    refine Zbo ?_
    obtain ⟨it, hu, hit, h9⟩ := arOf_spec ht
    unfold Instr.sliceAt
    rw [Zl (Zaq hu)]
    simp only [Option.map_none]
    have hb := run_bounds (P := P) (w := w) (isS := false) ha h1 h2 (Nat.le_refl len) hh hl
    rw [Zl (show (Instr.sureAddr (.pointer (some ⟨b, off, none⟩))).run P w = .ok ⟨b, off, none⟩ w from rfl), Zl hb, Zl (run_sizeOf' hit)]
    simp only [h9]
    unfold pieceV
    split <;> rfl)) (fun a ha => ha.put hd _) hK
def byteVs (s : ByteArray) : List Value := s.data.toList.map fun b => .int .u8 (b.toNat : Int)
def arOfN (P : Program) (t : TypeId) : Option (Nat × TypeId × Nat) := match P.underlying t with
  | some (.array k el) => match P.info? el with
    | some i => some (k, el, i.size)
    | none => none
  | _ => none
def u8R (n : Nat) : Segs := [.one (.int .u8 (n : Int))]
theorem u8_cells : ∀ l : List Nat, rowsCells (l.map u8R) = (l.map fun n : Nat => (n : Int)).map (Value.int .u8)
  | [] => rfl
  | x :: l => by
    have := u8_cells l
    show (Value.int .u8 (x : Int)) :: rowsCells (l.map u8R) = _
    rw [this]; rfl
theorem Zbr {src dst' E by_ : Nat} {x : Operand} {u : Value} {l : List Nat} {s : ByteArray} {MJ : Mem} {HJ : Hp} (hi : ops[i]? = some ⟨some d, .convert src dst' x, ty, pos, af, gd⟩) (hg : want ops e gd = some true)
    (hx : ev e x = some u) (hsrc : Src MJ HJ 1 u (l.map u8R)) (ht : slOf P src = some (E, 1, by_)) (he : P.underlying E = some (.int .u8)) (hd' : P.underlying dst' = some .string) (hs : strOfNums (l.map fun n : Nat => (n : Int)) = s) (hd : Nat.ble (d + 1) n.sz = true)
    (hk : XD P n ops Q rest (St MJ HJ) A ((d, .string s) :: e)) : XD P n ops Q (i :: rest) (St MJ HJ) A e := by
  obtain ⟨it, hun, hit, hsz, rfl⟩ := elemOf_spec ht
  have hcl : clOf P (.convert src dst' x) = .read := by simp [clOf, hun, hd']
  obtain ⟨hln, h1, ad, c2, rfl, hsr⟩ := hsrc
  refine Zbx hi hcl hg (fun a w ha hw => Zat ?_) (fun a ha => ha.put hd _) hk
  have hload := run_loadCells_list (P := P) w ad (rowsCells (l.map u8R)) (fun j v hj => hsr w hw j v hj)
  rw [u8_cells, List.length_map, List.length_map] at hload
  have hr : (convert src dst' (.slice (some ad) (l.map u8R).length c2)).run P w = .ok (.string s) w := by
    rw [run_convert_bytes_string w src dst' E _ _ c2 hun he hd', List.length_map, run_bytesToString w ad l.length c2 _ hload, foldl_push_bytes, ← hs]
    simp [strOfNums, ByteArray.empty, ByteArray.emptyWithCapacity]
    first | done | rfl
  simp only [execOp, ha.ev hx]
  exact Zbo hr
end
def natsOf (s : ByteArray) : List Nat := s.data.toList.map fun b => b.toNat
def u32R (n : Nat) : Segs := [.one (.int .u32 (n : Int))]
end Go.Esp
namespace Go.Esp
section
variable {P : Program} {ops : Array Oper} {Q : Exit → Act → World → Prop} {M M' : Mem} {H H' H0 : Hp} {e : Env}
end
end Go.Esp
namespace Go.Esp
section
variable {P : Program} {n : Sh} {ops : Array Oper} {Q : Exit → Act → World → Prop} {rest : List Nat} {M M' : Mem} {H H' H0 : Hp} {e : Env} {J S : World → Prop} {A : As} {i : Nat}
  {dst : Option Tmp} {d : Tmp} {op : Op} {ty : TypeId} {pos : String} {af : Array Edge} {gd : Option (Nat × Bool)}
theorem X_index_str {t k : Nat} {x ix : Operand} {q : IntKind} {z : Int} {s : ByteArray} {v : Value} (hi : ops[i]? = some ⟨some d, .index t x ix, ty, pos, af, gd⟩) (hg : want ops e gd = some true)
    (hx : ev e x = some (.string s)) (hix : ev e ix = some (.int q z)) (ht : P.underlying t = some .string) (hz : z = (k : Int)) (hk : k < s.size) (hv : Value.int .u8 (((natsOf s).getD k 0 : Nat) : Int) = v) (hd : Nat.ble (d + 1) n.sz = true)
    (hK : XD P n ops Q rest J A ((d, v) :: e)) : XD P n ops Q (i :: rest) J A e :=
  Zbq hi rfl hg (fun a' w hA => Zat (by
    subst hz hv
    simp only [execOp, hA.ev hx, hA.ev hix]
    refine Zbo ?_
    rw [run_index_string w t s q (k : Int) ht, dif_pos ⟨by omega, by omega⟩]
    have e1 : (natsOf s).getD k 0 = (s[k]'hk).toNat := by
      unfold natsOf
      rw [List.getD_eq_getElem?_getD, List.getElem?_map, List.getElem?_eq_getElem (by rw [Array.length_toList]; exact hk)]
      simp only [Option.map_some, Option.getD_some, Array.getElem_toList]
      rfl
    rw [e1]
    rfl)) (fun a ha => ha.put hd _) hK
end
end Go.Esp
namespace Go.Esp
section
variable {P : Program} {n : Sh} {ops : Array Oper} {Q : Exit → Act → World → Prop} {rest : List Nat} {M M' : Mem} {H H' H0 : Hp} {e : Env} {J S : World → Prop} {A : As} {i : Nat}
  {dst : Option Tmp} {d : Tmp} {op : Op} {ty : TypeId} {pos : String} {af : Array Edge} {gd : Option (Nat × Bool)}
end
end Go.Esp
namespace Go.Esp
section
variable {P : Program} {n : Sh} {ops : Array Oper} {Q : Exit → Act → World → Prop} {rest : List Nat} {M M' : Mem} {H H' H0 : Hp} {e : Env} {J S : World → Prop} {A : As} {i : Nat}
  {dst : Option Tmp} {d : Tmp} {op : Op} {ty : TypeId} {pos : String} {af : Array Edge} {gd : Option (Nat × Bool)}
end
end Go.Esp
namespace Go.Esp
section
variable {P : Program} {ops : Array Oper} {Q : Exit → Act → World → Prop} {M M' : Mem} {H H' H0 : Hp} {e : Env}
end
end Go.Esp
namespace Go.Esp
section
variable {P : Program} {ops : Array Oper} {cl : Nat → Cls} {Q : Exit → Act → World → Prop} {md : Region.Mode}
def okPairP (ops : Array Oper) (cl : Nat → Cls) (B : Array Nat) (x i : Nat) : Bool :=
  !(B.getD x 0).testBit i && (x != i) && ((B.getD i 0).testBit x || (match ops[x]?, ops[i]? with | some ox, some oi => ox.apart ops oi && mayPass (cl x) (cl i) | _, _ => false))
def okListP (ops : Array Oper) (cl : Nat → Cls) (B : Array Nat) : List Nat → Bool
  | [] => true
  | x :: r => r.all (fun i => okPairP ops cl B x i) && okListP ops cl B r
def okRegionP (ops : Array Oper) (cl : Nat → Cls) (B : Array Nat) (l0 : List Nat) : Bool :=
  Region.noSelect ops && okEdges ops B && okListP ops cl B l0 && (List.range ops.size).all (fun i => l0.contains i) && l0.length == ops.size && l0.all (fun i => decide (i < ops.size))
def leftP (l0 : List Nat) (listed : Array Bool) : List Nat := l0.filter fun i => !listed.getD i true
end
end Go.Esp
namespace Go.Esp
section
variable {P : Program} {ops : Array Oper} {Q : Exit → Act → World → Prop} {M M' : Mem} {H H' H0 : Hp} {e : Env}
end
end Go.Esp
namespace Go.Esp
section
variable {P : Program} {n : Sh} {ops : Array Oper} {Q : Exit → Act → World → Prop} {rest : List Nat} {M M' : Mem} {H H' H0 : Hp} {e : Env} {J : World → Prop} {i : Nat} {ty : TypeId} {pos : String} {af : Array Edge} {gd : Option (Nat × Bool)}
end
end Go.Esp
set_option maxRecDepth 8000
set_option maxHeartbeats 1000000
namespace Go.Proofs.YtbeahcfghjiogaaDoor
open Go.Esp
theorem F.bld60 : Bld Tryd.prog 60 [[.one (.int .i64 0)]] := ⟨by kernel_rfl, by kernel_rfl⟩
theorem F.bld68 : Bld Tryd.prog 68 [[.one (.string ⟨#[]⟩)], [.one .nilIface]] := ⟨by kernel_rfl, by kernel_rfl⟩
theorem F.elem25 : slOf Tryd.prog 25 = some (30, 1, 16) := by kernel_rfl
theorem F.foff68_1 : foff Tryd.prog 68 1 = some 1 := by kernel_rfl
theorem F.foff71_0 : foff Tryd.prog 71 0 = some 0 := by kernel_rfl
theorem F.kinds60 : kindsOf Tryd.prog 20 60 = some [.i .i64] := by kernel_rfl
theorem F.lay25 : lay Tryd.prog 25 = some (false, 1) := by kernel_rfl
theorem F.lay30 : lay Tryd.prog 30 = some (false, 1) := by kernel_rfl
theorem F.lay60 : lay Tryd.prog 60 = some (true, 1) := by kernel_rfl
theorem F.meth66_Unwrap (p : Option Addr) : Meth Tryd.prog 66 (.pointer p) "Unwrap" 72 (.pointer p) := fun w => by kernel_rfl
theorem F.meth69_Unwrap (p : Option Addr) : Meth Tryd.prog 69 (.pointer p) "Unwrap" 74 (.pointer p) := fun w => by kernel_rfl
theorem F.ok36 : okFn Tryd.prog 36 = true := by kernel_rfl
theorem F.ok72 : okFn Tryd.prog 72 = true := by kernel_rfl
theorem F.ok74 : okFn Tryd.prog 74 = true := by kernel_rfl
theorem F.ta60_94 (v : Value) (w : World) : (Instr.typeAssert (.iface 60 v) 30 94 true).run Tryd.prog w = .ok (.tuple #[.nilIface, .bool false]) w := run_typeAssert_lacksB Tryd.underlying94 (by kernel_rfl) (by kernel_rfl) v 30 w
theorem F.ta60_96 (v : Value) (w : World) : (Instr.typeAssert (.iface 60 v) 30 96 true).run Tryd.prog w = .ok (.tuple #[.nilIface, .bool false]) w := run_typeAssert_lacksB Tryd.underlying96 (by kernel_rfl) (by kernel_rfl) v 30 w
theorem F.ta60_98 (v : Value) (w : World) : (Instr.typeAssert (.iface 60 v) 30 98 true).run Tryd.prog w = .ok (.tuple #[.nilIface, .bool false]) w := run_typeAssert_lacksB Tryd.underlying98 (by kernel_rfl) (by kernel_rfl) v 30 w
theorem F.ta66_94 (v : Value) (w : World) : (Instr.typeAssert (.iface 66 v) 30 94 true).run Tryd.prog w = .ok (.tuple #[.iface 66 v, .bool true]) w := run_typeAssert_hasB Tryd.underlying94 (by kernel_rfl) v 30 w
theorem F.ta66_98 (v : Value) (w : World) : (Instr.typeAssert (.iface 66 v) 30 98 true).run Tryd.prog w = .ok (.tuple #[.nilIface, .bool false]) w := run_typeAssert_lacksB Tryd.underlying98 (by kernel_rfl) (by kernel_rfl) v 30 w
theorem F.ta69_94 (v : Value) (w : World) : (Instr.typeAssert (.iface 69 v) 30 94 true).run Tryd.prog w = .ok (.tuple #[.nilIface, .bool false]) w := run_typeAssert_lacksB Tryd.underlying94 (by kernel_rfl) (by kernel_rfl) v 30 w
theorem F.ta69_96 (v : Value) (w : World) : (Instr.typeAssert (.iface 69 v) 30 96 true).run Tryd.prog w = .ok (.tuple #[.iface 69 v, .bool true]) w := run_typeAssert_hasB Tryd.underlying96 (by kernel_rfl) v 30 w
theorem F.ta69_98 (v : Value) (w : World) : (Instr.typeAssert (.iface 69 v) 30 98 true).run Tryd.prog w = .ok (.tuple #[.nilIface, .bool false]) w := run_typeAssert_lacksB Tryd.underlying98 (by kernel_rfl) (by kernel_rfl) v 30 w
theorem bNew_ok (M : Mem) (c : Int) : Fs Tryd.prog 23 [.int .i64 c] M (fun v => v = newE c) := by
  refine Zbb Tryd.func23 rfl Tryd.ntmps23 rfl ?_; intro H
  refine Zj ?_; refine Za (l := [0]) rfl ?_; refine Ze rfl rfl rfl rfl ?_; refine Zf ?_; refine Zb ?_; refine Zj ?_; refine Zj ?_; refine Za (l := [0, 1]) rfl ?_; refine Zc rfl rfl rfl rfl ?_; refine Zao rfl rfl rfl rfl rfl rfl ?_; refine Zf ?_; refine Zb ?_; refine Zk (.cons (k := 4) rfl (.cons (k := 2) rfl (.cons (k := 0) rfl .nil))) ?_
  refine Zx rfl (fun hc1 => ?_) (fun hc1 => ?_)
  · first | replace hc1 := dT hc1 | replace hc1 := dF hc1 | replace hc1 := nT hc1 | replace hc1 := nF hc1 | skip
    first
    | (exfalso; omega)
    | (exfalso; simp [eqX] at hc1; done)
    | contradiction
    | skip
      refine Zj ?_; refine Za (l := [0]) rfl ?_; refine Ze rfl rfl rfl rfl ?_; refine Zf ?_; refine Zb ?_; refine Zk (.cons (k := 2) rfl (.cons (k := 0) rfl .nil)) ?_; refine Zag ?_; refine Zam ?_
      refine Zab (.inr rfl) (.tmp rfl .nil) (fun w hw => ?_)
      refine ⟨_, rfl, hw.cnt (by intro zz; first | exact Nat.le_refl _ | (simp only [Zh, Zd, Zi, cat, List.append_eq, List.append_assoc, List.cons_append, List.nil_append, List.append_nil]; omega) | (simp only [Zh, Zd, Zi, cat, List.append_eq, List.append_assoc, List.cons_append, List.nil_append, List.append_nil, StepL06V.segs]; omega)), ?_⟩
      unfold newE
      first | rw [if_pos (by omega)]; rfl | rw [if_neg (by omega)]; rfl
  · first | replace hc1 := dT hc1 | replace hc1 := dF hc1 | replace hc1 := nT hc1 | replace hc1 := nF hc1 | skip
    first
    | (exfalso; omega)
    | (exfalso; simp [eqX] at hc1; done)
    | contradiction
    | skip
      refine Zu ?_; refine Zb ?_; refine Zk (.cons (k := 2) rfl (.cons (k := 0) rfl .nil)) ?_; refine Zj ?_; refine Za (l := [0, 1, 2, 3]) rfl ?_; refine Zc rfl rfl rfl rfl ?_; refine Zbn rfl rfl F.bld60 (.cons rfl (by constructor) .nil) rfl rfl ?_; refine X_iface rfl rfl rfl Tryd.underlying60 rfl rfl ?_; refine Ze rfl rfl rfl rfl ?_; refine Zf ?_; refine Zb ?_; refine Zk (.cons (k := 2) rfl .nil) ?_; refine Zag ?_
      refine Zab (.inr rfl) (.tmp rfl .nil) (fun w hw => ?_)
      refine ⟨_, rfl, hw.cnt (by intro zz; first | exact Nat.le_refl _ | (simp only [Zh, Zd, Zi, cat, List.append_eq, List.append_assoc, List.cons_append, List.nil_append, List.append_nil]; omega) | (simp only [Zh, Zd, Zi, cat, List.append_eq, List.append_assoc, List.cons_append, List.nil_append, List.append_nil, StepL06V.segs]; omega)), ?_⟩
      unfold newE
      first | rw [if_pos (by omega)]; rfl | rw [if_neg (by omega)]; rfl
theorem bWrap_nil (M : Mem) (op : ByteArray) : Fs Tryd.prog 21 [.string op, .nilIface] M (fun v => v = .nilIface) := by
  refine Zbb Tryd.func21 rfl Tryd.ntmps21 rfl ?_; intro H
  refine Zj ?_; refine Za (l := [0]) rfl ?_; refine Ze rfl rfl rfl rfl ?_; refine Zf ?_; refine Zb ?_; refine Zj ?_; refine Zj ?_; refine Za (l := [0, 1]) rfl ?_; refine Zc rfl rfl rfl rfl ?_; refine Zby rfl rfl rfl rfl Tryd.underlying30 rfl rfl ?_; refine Zf ?_; refine Zb ?_; refine Zk (.cons (k := 6) rfl (.cons (k := 4) rfl (.cons (k := 0) rfl (.cons (k := 1) rfl .nil)))) ?_
  refine Zx rfl (fun hc1 => ?_) (fun hc1 => ?_)
  · first | replace hc1 := dT hc1 | replace hc1 := dF hc1 | replace hc1 := nT hc1 | replace hc1 := nF hc1 | skip
    first
    | (exfalso; omega)
    | (exfalso; simp [eqX] at hc1; done)
    | contradiction
    | skip
      refine Zj ?_; refine Za (l := [0]) rfl ?_; refine Ze rfl rfl rfl rfl ?_; refine Zf ?_; refine Zb ?_; refine Zk (.cons (k := 4) rfl (.cons (k := 0) rfl (.cons (k := 1) rfl .nil))) ?_; refine Zag ?_; refine Zam ?_
      refine Zab (.inr rfl) (.tmp rfl .nil) (fun w hw => ?_)
      refine ⟨_, rfl, hw.cnt (by intro zz; first | exact Nat.le_refl _ | (simp only [Zh, Zd, Zi, cat, List.append_eq, List.append_assoc, List.cons_append, List.nil_append, List.append_nil]; omega) | (simp only [Zh, Zd, Zi, cat, List.append_eq, List.append_assoc, List.cons_append, List.nil_append, List.append_nil, StepL06V.segs]; omega)), rfl⟩
  · first | replace hc1 := dT hc1 | replace hc1 := dF hc1 | replace hc1 := nT hc1 | replace hc1 := nF hc1 | skip
    first
    | (exfalso; omega)
    | (exfalso; simp [eqX] at hc1; done)
    | contradiction
    | skip
      refine Zu ?_; refine Zb ?_; refine Zk (.cons (k := 4) rfl (.cons (k := 0) rfl (.cons (k := 1) rfl .nil))) ?_; refine Zj ?_; refine Za (l := [0, 1, 2, 3, 4, 5]) rfl ?_; refine Zc rfl rfl rfl rfl ?_; refine Zc rfl rfl rfl rfl ?_; refine Zbn rfl rfl F.bld68 (.cons rfl (by constructor) (.cons rfl (by constructor) .nil)) rfl rfl ?_
      refine X_box rfl rfl rfl (by constructor) rfl ?_; intro b2
      refine X_iface rfl rfl rfl Tryd.underlying66 rfl rfl ?_; refine Ze rfl rfl rfl rfl ?_; refine Zf ?_; refine Zb ?_; refine Zk (.cons (k := 4) rfl .nil) ?_; refine Zag ?_
      refine Zab (.inr rfl) (.tmp rfl .nil) (fun w hw => ?_)
      refine ⟨_, rfl, hw.cnt (by intro zz; first | exact Nat.le_refl _ | (simp only [Zh, Zd, Zi, cat, List.append_eq, List.append_assoc, List.cons_append, List.nil_append, List.append_nil]; omega) | (simp only [Zh, Zd, Zi, cat, List.append_eq, List.append_assoc, List.cons_append, List.nil_append, List.append_nil, StepL06V.segs]; omega)), rfl⟩
theorem bWrap_ok (M : Mem) (op : ByteArray) (e : Err) (v : Value) (he : ErrV M e v) : Esp.Fn Tryd.prog 21 [.string op, v] M (fun M' u => ErrV M' (.wrap op e) u) := by
  obtain ⟨t1, u1, rfl⟩ := he.iface
  refine fn_enter Tryd.func21 rfl Tryd.ntmps21 rfl ?_; intro H
  refine Zj ?_; refine Za (l := [0]) rfl ?_; refine Ze rfl rfl rfl rfl ?_; refine Zf ?_; refine Zb ?_; refine Zj ?_; refine Zj ?_; refine Za (l := [0, 1]) rfl ?_; refine Zc rfl rfl rfl rfl ?_; refine Zby rfl rfl rfl rfl Tryd.underlying30 rfl rfl ?_; refine Zf ?_; refine Zb ?_; refine Zk (.cons (k := 6) rfl (.cons (k := 4) rfl (.cons (k := 0) rfl (.cons (k := 1) rfl .nil)))) ?_
  refine Zx rfl (fun hc1 => ?_) (fun hc1 => ?_)
  · first | replace hc1 := dT hc1 | replace hc1 := dF hc1 | replace hc1 := nT hc1 | replace hc1 := nF hc1 | skip
    first
    | (exfalso; omega)
    | (exfalso; simp [eqX] at hc1; done)
    | contradiction
    | skip
      refine Zj ?_; refine Za (l := [0]) rfl ?_; refine Ze rfl rfl rfl rfl ?_; refine Zf ?_; refine Zb ?_; refine Zk (.cons (k := 4) rfl (.cons (k := 0) rfl (.cons (k := 1) rfl .nil))) ?_; refine Zag ?_; refine Zam ?_
      refine Zab (.inr rfl) (.tmp rfl .nil) (fun w hw => ?_)
      simp at *
  · first | replace hc1 := dT hc1 | replace hc1 := dF hc1 | replace hc1 := nT hc1 | replace hc1 := nF hc1 | skip
    first
    | (exfalso; omega)
    | (exfalso; simp [eqX] at hc1; done)
    | contradiction
    | skip
      refine Zu ?_; refine Zb ?_; refine Zk (.cons (k := 4) rfl (.cons (k := 0) rfl (.cons (k := 1) rfl .nil))) ?_; refine Zj ?_; refine Za (l := [0, 1, 2, 3, 4, 5]) rfl ?_; refine Zc rfl rfl rfl rfl ?_; refine Zc rfl rfl rfl rfl ?_; refine Zbn rfl rfl F.bld68 (.cons rfl (by constructor) (.cons rfl (by constructor) .nil)) rfl rfl ?_
      refine X_box rfl rfl rfl (by constructor) rfl ?_; intro b2
      refine X_iface rfl rfl rfl Tryd.underlying66 rfl rfl ?_; refine Ze rfl rfl rfl rfl ?_; refine Zf ?_; refine Zb ?_; refine Zk (.cons (k := 4) rfl .nil) ?_; refine Zag ?_
      refine Zab (.inr rfl) (.tmp rfl .nil) (fun w hw => ?_)
      have hw2 : St M ((b2, rowO [.one (.string op), .one (.iface t1 u1)] 68) :: H) w := hw.cnt (by intro zz; first | exact Nat.le_refl _ | (simp only [Zh, Zd, Zi, cat, List.append_eq, List.append_assoc, List.cons_append, List.nil_append, List.append_nil]; omega) | (simp only [Zh, Zd, Zi, cat, List.append_eq, List.append_assoc, List.cons_append, List.nil_append, List.append_nil, StepL06V.segs]; omega))
      obtain ⟨h1, h2⟩ := hw2.freeze
      exact ⟨_, _, rfl, h1, h2, b2, _, rfl, Mem.add_self _ _ _, he.mono h1⟩
theorem wUn_ok (M : Mem) (b : Nat) (s : ByteArray) (u : Value) (hb : M b = some (rowO [.one (.string s), .one u] 68)) : Fo Tryd.prog 72 [.pointer (some ⟨b, 0, none⟩)] M [] (fun M' v => M' = M ∧ v = u) := by
  refine fo_enter Tryd.func72 rfl Tryd.ntmps72 rfl ?_; intro H
  refine Zj ?_; refine Za (l := [0]) rfl ?_; refine Ze rfl rfl rfl rfl ?_; refine Zf ?_; refine Zb ?_; refine Zj ?_; refine Za (l := [0, 1, 2, 3, 4]) rfl ?_; refine Zc rfl rfl rfl rfl ?_; refine X_nilCheck rfl rfl rfl rfl ?_
  first | refine Zad rfl rfl rfl F.foff68_1 rfl ?_ | refine Zv rfl rfl rfl (by first | exact ⟨_, _, rfl⟩ | assumption | exact SlM.plain (by assumption) (by first | (simp; done) | (simp; omega)) | exact RdS.plain (by assumption) (by first | (simp; done) | (simp; omega)) | exact OSl.plain (by assumption) (by first | (simp; done) | (simp; omega))) F.foff68_1 rfl ?_
  first | refine Zan rfl rfl rfl (by repeat first | exact List.Mem.head _ | refine List.Mem.tail _ ?_ | refine List.mem_append_right _ ?_) F.lay30 rfl rfl rfl ?_ | refine Zs rfl rfl rfl (by first | assumption | exact SlM.mono (by assumption) (by assumption)) (by first | exact Zg (by omega) | exact List.getElem?_eq_getElem (by omega) | exact rfl | exact Zg (by first | (simp; done) | (simp; omega))) F.lay30 rfl rfl rfl ?_ | refine Zr rfl rfl rfl (by assumption) (by first | exact Zg (by omega) | exact List.getElem?_eq_getElem (by omega) | exact rfl | exact Zg (by first | (simp; done) | (simp; omega))) F.lay30 rfl rfl rfl ?_ | refine Zp rfl rfl rfl (by first | assumption | exact Mem.get_of (by assumption) (by repeat first | assumption | refine Mem.le.trans (by assumption) ?_)) F.lay30 rfl rfl rfl ?_ | refine Zo rfl rfl rfl (by assumption) (by repeat first | exact Rem.here _ | exact Rem.two | apply Rem.skip | apply Rem.over) (by first | exact Zg (by omega) | exact List.getElem?_eq_getElem (by omega) | exact rfl | exact Zg (by first | (simp; done) | (simp; omega))) F.lay30 rfl rfl rfl ?_ | refine Zq rfl rfl rfl (by repeat first | exact List.Mem.head _ | refine List.Mem.tail _ ?_ | refine List.mem_append_right _ ?_) F.lay30 (by first | exact Zbj (by first | omega | decide) | exact Zax (by first | omega | decide)) rfl ?_
  refine Ze rfl rfl rfl rfl ?_; refine Zf ?_; refine Zb ?_; refine Zk (.cons (k := 2) rfl .nil) ?_; refine Zag ?_
  refine Zab (.inr rfl) (.tmp rfl .nil) (fun w hw => ?_)
  exact ⟨_, M, rfl, Mem.le.refl M, hw.cnt (by intro zz; first | exact Nat.le_refl _ | (simp only [Zh, Zd, Zi, cat, List.append_eq, List.append_assoc, List.cons_append, List.nil_append, List.append_nil]; omega) | (simp only [Zh, Zd, Zi, cat, List.append_eq, List.append_assoc, List.cons_append, List.nil_append, List.append_nil, StepL06V.segs]; omega)), rfl, rfl⟩
theorem jUn_ok (M : Mem) (b : Nat) (u : Value) (hb : M b = some (rowO [.one u] 71)) : Fo Tryd.prog 74 [.pointer (some ⟨b, 0, none⟩)] M [] (fun M' v => M' = M ∧ v = u) := by
  refine fo_enter Tryd.func74 rfl Tryd.ntmps74 rfl ?_; intro H
  refine Zj ?_; refine Za (l := [0]) rfl ?_; refine Ze rfl rfl rfl rfl ?_; refine Zf ?_; refine Zb ?_; refine Zj ?_; refine Za (l := [0, 1, 2, 3, 4]) rfl ?_; refine Zc rfl rfl rfl rfl ?_; refine X_nilCheck rfl rfl rfl rfl ?_
  first | refine Zad rfl rfl rfl F.foff71_0 rfl ?_ | refine Zv rfl rfl rfl (by first | exact ⟨_, _, rfl⟩ | assumption | exact SlM.plain (by assumption) (by first | (simp; done) | (simp; omega)) | exact RdS.plain (by assumption) (by first | (simp; done) | (simp; omega)) | exact OSl.plain (by assumption) (by first | (simp; done) | (simp; omega))) F.foff71_0 rfl ?_
  first | refine Zan rfl rfl rfl (by repeat first | exact List.Mem.head _ | refine List.Mem.tail _ ?_ | refine List.mem_append_right _ ?_) F.lay25 rfl rfl rfl ?_ | refine Zs rfl rfl rfl (by first | assumption | exact SlM.mono (by assumption) (by assumption)) (by first | exact Zg (by omega) | exact List.getElem?_eq_getElem (by omega) | exact rfl | exact Zg (by first | (simp; done) | (simp; omega))) F.lay25 rfl rfl rfl ?_ | refine Zr rfl rfl rfl (by assumption) (by first | exact Zg (by omega) | exact List.getElem?_eq_getElem (by omega) | exact rfl | exact Zg (by first | (simp; done) | (simp; omega))) F.lay25 rfl rfl rfl ?_ | refine Zp rfl rfl rfl (by first | assumption | exact Mem.get_of (by assumption) (by repeat first | assumption | refine Mem.le.trans (by assumption) ?_)) F.lay25 rfl rfl rfl ?_ | refine Zo rfl rfl rfl (by assumption) (by repeat first | exact Rem.here _ | exact Rem.two | apply Rem.skip | apply Rem.over) (by first | exact Zg (by omega) | exact List.getElem?_eq_getElem (by omega) | exact rfl | exact Zg (by first | (simp; done) | (simp; omega))) F.lay25 rfl rfl rfl ?_ | refine Zq rfl rfl rfl (by repeat first | exact List.Mem.head _ | refine List.Mem.tail _ ?_ | refine List.mem_append_right _ ?_) F.lay25 (by first | exact Zbj (by first | omega | decide) | exact Zax (by first | omega | decide)) rfl ?_
  refine Ze rfl rfl rfl rfl ?_; refine Zf ?_; refine Zb ?_; refine Zk (.cons (k := 2) rfl .nil) ?_; refine Zag ?_
  refine Zab (.inr rfl) (.tmp rfl .nil) (fun w hw => ?_)
  exact ⟨_, M, rfl, Mem.le.refl M, hw.cnt (by intro zz; first | exact Nat.le_refl _ | (simp only [Zh, Zd, Zi, cat, List.append_eq, List.append_assoc, List.cons_append, List.nil_append, List.append_nil]; omega) | (simp only [Zh, Zd, Zi, cat, List.append_eq, List.append_assoc, List.cons_append, List.nil_append, List.append_nil, StepL06V.segs]; omega)), rfl, rfl⟩
theorem is_aux (M : Mem) (x : Int) : ∀ (n : Nat) (e : Err) (v : Value), e.big ≤ n → ErrV M e v → Fs Tryd.prog 36 [v, .iface 60 (aggV [.one (.int .i64 x)]), .bool true] M (fun r => r = .bool (decide (x ∈ e.codes)))
  | 0, e, v, hn, hv0 => by cases e <;> simp [Err.big] at hn
  | n + 1, e, v, hn, hv0 => by
    have ih := fun e v (h : Err.big e ≤ n) h2 => is_aux M x n e v h h2
    refine Zbb Tryd.func36 rfl Tryd.ntmps36 rfl ?_; intro H
    refine Zj ?_; refine Za (l := [0]) rfl ?_; refine Ze rfl rfl rfl rfl ?_; refine Zf ?_; refine Zb ?_; refine Zaa ?_; refine Zk (.cons (k := 0) rfl (.cons (k := 6) rfl (.cons (k := 1) rfl (.cons (k := 2) rfl .nil)))) ?_; refine C_loopS (.succ .zero) (fun (e1 : Err) z => ∃ v1, z = [(0, v1)] ∧ ErrV M e1 v1 ∧ e1.big ≤ e.big ∧ (x ∈ e1.codes ↔ x ∈ e.codes)) (Err.big) (e) (⟨v, rfl, hv0, Nat.le_refl _, Iff.rfl⟩) ?_
    rintro e1 z ⟨v1, rfl, hv, hb, hc⟩
    rcases e1 with c | ⟨op1, e2⟩ | l1
    · obtain rfl : v1 = .iface 60 (aggV [.one (.int .i64 c)]) := hv
      refine Zaa ?_; refine Zj ?_; refine Zj ?_; refine Za (l := [0, 1, 2, 3, 4, 5]) rfl ?_; refine Zc rfl rfl rfl rfl ?_; refine Zc rfl rfl rfl rfl ?_; refine Zc rfl rfl rfl rfl ?_; refine Zc rfl rfl rfl rfl ?_; refine X_ifeq rfl rfl rfl rfl rfl (run_eq_code (m := 20) Tryd.underlying30 (by kernel_rfl) F.kinds60 (by decide) F.lay60) rfl ?_; refine Zau rfl rfl rfl rfl rfl ?_; refine Zf ?_; refine Zb ?_
      refine Zx rfl (fun hc1 => ?_) (fun hc1 => ?_)
      · first | replace hc1 := dT hc1 | replace hc1 := dF hc1 | replace hc1 := nT hc1 | replace hc1 := nF hc1 | skip
        first
        | (exfalso; omega)
        | (exfalso; simp [eqX] at hc1; done)
        | contradiction
        | skip
          refine Zj ?_; refine Za (l := [0]) rfl ?_; refine Ze rfl rfl rfl rfl ?_; refine Zf ?_; refine Zb ?_; refine Zag ?_; refine Zam ?_; refine Zaw ?_; refine Zam ?_; refine Zaw ?_
          refine Zab (.inr rfl) (.tmp rfl .nil) (fun w hw => ?_)
          refine ⟨_, rfl, hw.cnt (by intro zz; first | exact Nat.le_refl _ | (simp only [Zh, Zd, Zi, cat, List.append_eq, List.append_assoc, List.cons_append, List.nil_append, List.append_nil]; omega) | (simp only [Zh, Zd, Zi, cat, List.append_eq, List.append_assoc, List.cons_append, List.nil_append, List.append_nil, StepL06V.segs]; omega)), ?_⟩
          clear hw
          refine congrArg Value.bool ?_
          simp only [Err.codes] at hc
          first
          | grind
          | (have hd := codesL_take (l := l1) (k := k) (by omega); have hsub : x ∈ codesL l1 := codesL_sub (by rw [hd]; exact List.mem_append_right _ (by simp_all)); simp_all; done)
          | (have hk9 : k = l1.length := (by omega); subst hk9; rw [List.take_length] at hI; simp_all; done)
      · first | replace hc1 := dT hc1 | replace hc1 := dF hc1 | replace hc1 := nT hc1 | replace hc1 := nF hc1 | skip
        first
        | (exfalso; omega)
        | (exfalso; simp [eqX] at hc1; done)
        | contradiction
        | skip
          refine Zu ?_; refine Zb ?_; refine Zj ?_; refine Zj ?_; refine Za (l := [0, 1, 2, 3, 4, 5, 6]) rfl ?_; refine Zc rfl rfl rfl rfl ?_; refine X_ta rfl rfl rfl (F.ta60_98 _) rfl ?_; refine Zc rfl rfl rfl rfl ?_; refine Zw rfl rfl rfl rfl rfl ?_; refine Zw rfl rfl rfl rfl rfl ?_; refine Ze rfl rfl rfl rfl ?_; refine Ze rfl rfl rfl rfl ?_; refine Zf ?_; refine Zb ?_; refine Zj ?_; refine Za (l := [0, 1, 2, 3, 4, 5]) rfl ?_; refine Zc rfl rfl rfl rfl ?_; refine Zc rfl rfl rfl rfl ?_; refine Zba rfl rfl rfl ?_; refine Zba rfl rfl rfl ?_; refine Zba rfl rfl rfl ?_; refine Zau rfl rfl rfl rfl rfl ?_; refine Zf ?_; refine Zb ?_; refine Zbe rfl ?_; refine Zu ?_; refine Zb ?_; refine Zj ?_; refine Za (l := [0]) rfl ?_; refine Zc rfl rfl rfl rfl ?_; refine Zf ?_; refine Zb ?_
          refine Zaa ?_; refine Zj ?_; refine Za (l := [0, 1, 2]) rfl ?_; refine X_ta rfl rfl rfl (F.ta60_94 _) rfl ?_; refine Zw rfl rfl rfl rfl rfl ?_; refine Zw rfl rfl rfl rfl rfl ?_; refine Zf ?_; refine Zb ?_; refine Zbe rfl ?_; refine Zj ?_; refine Za (l := [0, 1, 2]) rfl ?_; refine X_ta rfl rfl rfl (F.ta60_96 _) rfl ?_; refine Zw rfl rfl rfl rfl rfl ?_; refine Zw rfl rfl rfl rfl rfl ?_; refine Zf ?_; refine Zb ?_; refine Zbe rfl ?_; refine Zj ?_; refine Za (l := [0]) rfl ?_; refine Ze rfl rfl rfl rfl ?_; refine Zf ?_; refine Zb ?_; refine Zk (.cons (k := 41) rfl (.cons (k := 40) rfl (.cons (k := 39) rfl (.cons (k := 34) rfl (.cons (k := 33) rfl (.cons (k := 32) rfl (.cons (k := 31) rfl (.cons (k := 30) rfl (.cons (k := 29) rfl (.cons (k := 28) rfl (.cons (k := 27) rfl (.cons (k := 26) rfl (.cons (k := 25) rfl (.cons (k := 8) rfl (.cons (k := 7) rfl (.cons (k := 24) rfl (.cons (k := 23) rfl (.cons (k := 20) rfl (.cons (k := 22) rfl (.cons (k := 21) rfl (.cons (k := 19) rfl (.cons (k := 18) rfl (.cons (k := 17) rfl (.cons (k := 16) rfl (.cons (k := 15) rfl (.cons (k := 14) rfl (.cons (k := 0) rfl (.cons (k := 6) rfl (.cons (k := 1) rfl (.cons (k := 2) rfl .nil)))))))))))))))))))))))))))))) ?_
          refine Zj ?_; refine Za (l := [0]) rfl ?_; refine Ze rfl rfl rfl rfl ?_; refine Zf ?_; refine Zb ?_; refine Zag ?_; refine Zaw ?_; refine Zaw ?_; refine Zam ?_; refine Zaw ?_
          refine Zab (.inr rfl) (.tmp rfl .nil) (fun w hw => ?_)
          refine ⟨_, rfl, hw.cnt (by intro zz; first | exact Nat.le_refl _ | (simp only [Zh, Zd, Zi, cat, List.append_eq, List.append_assoc, List.cons_append, List.nil_append, List.append_nil]; omega) | (simp only [Zh, Zd, Zi, cat, List.append_eq, List.append_assoc, List.cons_append, List.nil_append, List.append_nil, StepL06V.segs]; omega)), ?_⟩
          clear hw
          refine congrArg Value.bool ?_
          simp only [Err.codes] at hc
          first
          | grind
          | (have hd := codesL_take (l := l1) (k := k) (by omega); have hsub : x ∈ codesL l1 := codesL_sub (by rw [hd]; exact List.mem_append_right _ (by simp_all)); simp_all; done)
          | (have hk9 : k = l1.length := (by omega); subst hk9; rw [List.take_length] at hI; simp_all; done)
    · obtain ⟨b1, w1, rfl, hb1, hw1⟩ := hv
      obtain ⟨t1, u1, rfl⟩ := hw1.iface
      refine Zaa ?_; refine Zj ?_; refine Zj ?_; refine Za (l := [0, 1, 2, 3, 4, 5]) rfl ?_; refine Zc rfl rfl rfl rfl ?_; refine Zc rfl rfl rfl rfl ?_; refine Zc rfl rfl rfl rfl ?_; refine Zc rfl rfl rfl rfl ?_; refine X_ifeq rfl rfl rfl rfl rfl (run_eq_apart Tryd.underlying30 (by decide)) rfl ?_; refine Zau rfl rfl rfl rfl rfl ?_; refine Zf ?_; refine Zb ?_; refine Zbe rfl ?_; refine Zu ?_; refine Zb ?_; refine Zj ?_; refine Zj ?_; refine Za (l := [0, 1, 2, 3, 4, 5, 6]) rfl ?_; refine Zc rfl rfl rfl rfl ?_; refine X_ta rfl rfl rfl (F.ta66_98 _) rfl ?_; refine Zc rfl rfl rfl rfl ?_; refine Zw rfl rfl rfl rfl rfl ?_; refine Zw rfl rfl rfl rfl rfl ?_; refine Ze rfl rfl rfl rfl ?_; refine Ze rfl rfl rfl rfl ?_; refine Zf ?_; refine Zb ?_; refine Zj ?_; refine Za (l := [0, 1, 2, 3, 4, 5]) rfl ?_
      refine Zc rfl rfl rfl rfl ?_; refine Zc rfl rfl rfl rfl ?_; refine Zba rfl rfl rfl ?_; refine Zba rfl rfl rfl ?_; refine Zba rfl rfl rfl ?_; refine Zau rfl rfl rfl rfl rfl ?_; refine Zf ?_; refine Zb ?_; refine Zbe rfl ?_; refine Zu ?_; refine Zb ?_; refine Zj ?_; refine Za (l := [0]) rfl ?_; refine Zc rfl rfl rfl rfl ?_; refine Zf ?_; refine Zb ?_; refine Zaa ?_; refine Zj ?_; refine Za (l := [0, 1, 2]) rfl ?_; refine X_ta rfl rfl rfl (F.ta66_94 _) rfl ?_; refine Zw rfl rfl rfl rfl rfl ?_; refine Zw rfl rfl rfl rfl rfl ?_; refine Zf ?_; refine Zb ?_; refine Zcc rfl ?_; refine Zj ?_; refine Za (l := [0]) rfl ?_; refine Ze rfl rfl rfl rfl ?_; refine Zf ?_; refine Zb ?_; refine Zj ?_; refine Za (l := [0, 1, 2]) rfl ?_; refine Zc rfl rfl rfl rfl ?_; refine X_invO rfl rfl rfl (F.meth66_Unwrap _) F.ok72 rfl (wUn_ok _ _ _ _ hb1) (Rem.here _ : Rem [] _ _) rfl ?_
      rintro _ M1 _ ⟨hM1, rfl⟩; subst M1
      refine Ze rfl rfl rfl rfl ?_; refine Zf ?_; refine Zb ?_; refine Zj ?_; refine Za (l := [0, 1]) rfl ?_; refine Zc rfl rfl rfl rfl ?_; refine Zby rfl rfl rfl rfl Tryd.underlying30 rfl rfl ?_; refine Zf ?_; refine Zb ?_
      refine Zx rfl (fun hc2 => ?_) (fun hc2 => ?_)
      · first | replace hc2 := dT hc2 | replace hc2 := dF hc2 | replace hc2 := nT hc2 | replace hc2 := nF hc2 | skip
        first
        | (exfalso; omega)
        | (exfalso; simp [eqX] at hc2; done)
        | contradiction
        | skip
          refine Zj ?_; refine Za (l := [0]) rfl ?_; refine Ze rfl rfl rfl rfl ?_; refine Zf ?_; refine Zb ?_; refine Zag ?_; refine Zaw ?_; refine Zaw ?_; refine Zam ?_; refine Zaw ?_
          refine Zab (.inr rfl) (.tmp rfl .nil) (fun w hw => ?_)
          refine ⟨_, rfl, hw.cnt (by intro zz; first | exact Nat.le_refl _ | (simp only [Zh, Zd, Zi, cat, List.append_eq, List.append_assoc, List.cons_append, List.nil_append, List.append_nil]; omega) | (simp only [Zh, Zd, Zi, cat, List.append_eq, List.append_assoc, List.cons_append, List.nil_append, List.append_nil, StepL06V.segs]; omega)), ?_⟩
          clear hw
          refine congrArg Value.bool ?_
          simp only [Err.codes] at hc
          first
          | grind
          | (have hd := codesL_take (l := l1) (k := k) (by omega); have hsub : x ∈ codesL l1 := codesL_sub (by rw [hd]; exact List.mem_append_right _ (by simp_all)); simp_all; done)
          | (have hk9 : k = l1.length := (by omega); subst hk9; rw [List.take_length] at hI; simp_all; done)
      · first | replace hc2 := dT hc2 | replace hc2 := dF hc2 | replace hc2 := nT hc2 | replace hc2 := nF hc2 | skip
        first
        | (exfalso; omega)
        | (exfalso; simp [eqX] at hc2; done)
        | contradiction
        | skip
          refine Zu ?_; refine Zbk ?_; refine Zbk ?_; refine K_roundS (a' := [(0, _)]) (e2) (.cons (k := 0) rfl (.cons (k := 6) rfl (.cons (k := 1) rfl (.cons (k := 2) rfl (.nil))))) (fun w hw => by first | exact hw | exact hw.cnt (by intro zz; first | exact Nat.le_refl _ | (simp only [Zh, Zd, Zi, cat, List.append_eq, List.append_assoc, List.cons_append, List.nil_append, List.append_nil]; omega) | (simp only [Zh, Zd, Zi, cat, List.append_eq, List.append_assoc, List.cons_append, List.nil_append, List.append_nil, StepL06V.segs]; omega))) ?_ ?_
          · exact ⟨_, rfl, hw1, by simp only [Err.big] at hb; omega, by simpa only [Err.codes] using hc⟩
          · simp only [Err.big]; omega
    · obtain ⟨hne, b1, ws, a1, c1, rfl, hb1, hs1, hl1, hws⟩ := hv
      have hlw := hws.len
      have nws : (ws.map fun u => ([.one u] : Segs)).length = ws.length := List.length_map ..
      have ml1 : ws.length ≤ 9223372036854775807 := hl1
      refine Zaa ?_; refine Zj ?_; refine Zj ?_; refine Za (l := [0, 1, 2, 3, 4, 5]) rfl ?_; refine Zc rfl rfl rfl rfl ?_; refine Zc rfl rfl rfl rfl ?_; refine Zc rfl rfl rfl rfl ?_; refine Zc rfl rfl rfl rfl ?_; refine X_ifeq rfl rfl rfl rfl rfl (run_eq_apart Tryd.underlying30 (by decide)) rfl ?_; refine Zau rfl rfl rfl rfl rfl ?_; refine Zf ?_; refine Zb ?_; refine Zbe rfl ?_; refine Zu ?_; refine Zb ?_; refine Zj ?_; refine Zj ?_; refine Za (l := [0, 1, 2, 3, 4, 5, 6]) rfl ?_; refine Zc rfl rfl rfl rfl ?_; refine X_ta rfl rfl rfl (F.ta69_98 _) rfl ?_; refine Zc rfl rfl rfl rfl ?_; refine Zw rfl rfl rfl rfl rfl ?_; refine Zw rfl rfl rfl rfl rfl ?_; refine Ze rfl rfl rfl rfl ?_; refine Ze rfl rfl rfl rfl ?_; refine Zf ?_; refine Zb ?_; refine Zj ?_; refine Za (l := [0, 1, 2, 3, 4, 5]) rfl ?_
      refine Zc rfl rfl rfl rfl ?_; refine Zc rfl rfl rfl rfl ?_; refine Zba rfl rfl rfl ?_; refine Zba rfl rfl rfl ?_; refine Zba rfl rfl rfl ?_; refine Zau rfl rfl rfl rfl rfl ?_; refine Zf ?_; refine Zb ?_; refine Zbe rfl ?_; refine Zu ?_; refine Zb ?_; refine Zj ?_; refine Za (l := [0]) rfl ?_; refine Zc rfl rfl rfl rfl ?_; refine Zf ?_; refine Zb ?_; refine Zaa ?_; refine Zj ?_; refine Za (l := [0, 1, 2]) rfl ?_; refine X_ta rfl rfl rfl (F.ta69_94 _) rfl ?_; refine Zw rfl rfl rfl rfl rfl ?_; refine Zw rfl rfl rfl rfl rfl ?_; refine Zf ?_; refine Zb ?_; refine Zbe rfl ?_; refine Zj ?_; refine Za (l := [0, 1, 2]) rfl ?_; refine X_ta rfl rfl rfl (F.ta69_96 _) rfl ?_; refine Zw rfl rfl rfl rfl rfl ?_; refine Zw rfl rfl rfl rfl rfl ?_; refine Zf ?_; refine Zb ?_
      refine Zcc rfl ?_; refine Zj ?_; refine Za (l := [0]) rfl ?_; refine Ze rfl rfl rfl rfl ?_; refine Zf ?_; refine Zb ?_; refine Zj ?_; refine Zj ?_; refine Za (l := [0, 1, 2, 3]) rfl ?_; refine Zc rfl rfl rfl rfl ?_; refine X_invO rfl rfl rfl (F.meth69_Unwrap _) F.ok74 rfl (jUn_ok _ _ _ hb1) (Rem.here _ : Rem [] _ _) rfl ?_
      rintro _ M1 _ ⟨hM1, rfl⟩; subst M1
      refine Zas rfl rfl rfl rfl F.elem25 rfl ?_; refine Zc rfl rfl rfl rfl ?_; refine Zf ?_; refine Zb ?_; refine Zaa ?_; refine Zk (.cons (k := 45) rfl (.cons (k := 44) rfl (.cons (k := 43) rfl (.cons (k := 42) rfl (.cons (k := 10) rfl (.cons (k := 41) rfl (.cons (k := 40) rfl (.cons (k := 39) rfl (.cons (k := 34) rfl (.cons (k := 33) rfl (.cons (k := 32) rfl (.cons (k := 31) rfl (.cons (k := 30) rfl (.cons (k := 29) rfl (.cons (k := 28) rfl (.cons (k := 27) rfl (.cons (k := 26) rfl (.cons (k := 25) rfl (.cons (k := 8) rfl (.cons (k := 7) rfl (.cons (k := 24) rfl (.cons (k := 23) rfl (.cons (k := 20) rfl (.cons (k := 22) rfl (.cons (k := 21) rfl (.cons (k := 19) rfl (.cons (k := 18) rfl (.cons (k := 17) rfl (.cons (k := 16) rfl (.cons (k := 15) rfl (.cons (k := 14) rfl (.cons (k := 0) rfl (.cons (k := 6) rfl (.cons (k := 1) rfl (.cons (k := 2) rfl .nil))))))))))))))))))))))))))))))))))) ?_
      refine C_loopS (.succ .zero) (fun (k : Nat) z => z = [(45, .int .i64 (k : Int))] ∧ k ≤ ws.length ∧ (x ∉ codesL (l1.take k))) (fun k => ws.length - k) (0) (⟨rfl, by omega, by simp [codesL]⟩) ?_
      rintro k _ ⟨rfl, hk, hI⟩
      refine Zj ?_; refine Za (l := [0]) rfl ?_; refine Zao rfl rfl rfl rfl rfl rfl ?_; refine Zf ?_; refine Zb ?_; refine Zj ?_
      refine Zx rfl (fun hc3 => ?_) (fun hc3 => ?_)
      · first | replace hc3 := dT hc3 | replace hc3 := dF hc3 | replace hc3 := nT hc3 | replace hc3 := nF hc3 | skip
        first
        | (exfalso; omega)
        | (exfalso; simp [eqX] at hc3; done)
        | contradiction
        | skip
          refine Zu ?_; refine Zb ?_; refine Zj ?_; refine Zaa ?_; refine Zj ?_; refine Za (l := [0, 1, 2]) rfl ?_; refine Zn rfl rfl rfl rfl F.elem25 (by first | rfl | exact (Int.toNat_of_nonneg (by omega)).symm) (by first | omega | (simp; done) | (simp; omega)) (by first | exact ⟨_, _, rfl⟩ | assumption | exact SlM.plain (by assumption) (by first | (simp; done) | (simp; omega)) | exact RdS.plain (by assumption) (by first | (simp; done) | (simp; omega)) | exact OSl.plain (by assumption) (by first | (simp; done) | (simp; omega))) rfl ?_
          first | refine Zan rfl rfl rfl (by repeat first | exact List.Mem.head _ | refine List.Mem.tail _ ?_ | refine List.mem_append_right _ ?_) F.lay30 rfl rfl rfl ?_ | refine Zs rfl rfl rfl (by first | assumption | exact SlM.mono (by assumption) (by assumption)) (by first | exact Zg (by omega) | exact List.getElem?_eq_getElem (by omega) | exact rfl | exact Zg (by first | (simp; done) | (simp; omega))) F.lay30 rfl rfl rfl ?_ | refine Zr rfl rfl rfl (by assumption) (by first | exact Zg (by omega) | exact List.getElem?_eq_getElem (by omega) | exact rfl | exact Zg (by first | (simp; done) | (simp; omega))) F.lay30 rfl rfl rfl ?_ | refine Zp rfl rfl rfl (by first | assumption | exact Mem.get_of (by assumption) (by repeat first | assumption | refine Mem.le.trans (by assumption) ?_)) F.lay30 rfl rfl rfl ?_ | refine Zo rfl rfl rfl (by assumption) (by repeat first | exact Rem.here _ | exact Rem.two | apply Rem.skip | apply Rem.over) (by first | exact Zg (by omega) | exact List.getElem?_eq_getElem (by omega) | exact rfl | exact Zg (by first | (simp; done) | (simp; omega))) F.lay30 rfl rfl rfl ?_ | refine Zq rfl rfl rfl (by repeat first | exact List.Mem.head _ | refine List.Mem.tail _ ?_ | refine List.mem_append_right _ ?_) F.lay30 (by first | exact Zbj (by first | omega | decide) | exact Zax (by first | omega | decide)) rfl ?_
          refine Ze rfl rfl rfl rfl ?_; refine Zf ?_; refine Zb ?_; refine Zj ?_; refine Za (l := [0, 1, 2, 3]) rfl ?_; refine Zc rfl rfl rfl rfl ?_; refine Zc rfl rfl rfl rfl ?_; refine Zc rfl rfl rfl rfl ?_; refine X_fs rfl rfl F.ok36 rfl (ih _ _ (by have h9 := big_mem (l := l1) (k := k) (by omega); simp only [Err.big] at hb; omega) (hws.at k (by omega) (by omega))) rfl ?_
          rintro _ rfl
          refine Zf ?_; refine Zb ?_
          refine Zx rfl (fun hc4 => ?_) (fun hc4 => ?_)
          · first | replace hc4 := dT hc4 | replace hc4 := dF hc4 | replace hc4 := nT hc4 | replace hc4 := nF hc4 | skip
            first
            | (exfalso; omega)
            | (exfalso; simp [eqX] at hc4; done)
            | contradiction
            | skip
              refine Zj ?_; refine Za (l := [0]) rfl ?_; refine Ze rfl rfl rfl rfl ?_; refine Zf ?_; refine Zb ?_; refine Zag ?_; refine Zaw ?_; refine Zam ?_; refine Zam ?_; refine Zaw ?_; refine Zam ?_; refine Zaw ?_; refine Zaw ?_; refine Zam ?_; refine Zaw ?_
              refine Zab (.inr rfl) (.tmp rfl .nil) (fun w hw => ?_)
              refine ⟨_, rfl, hw.cnt (by intro zz; first | exact Nat.le_refl _ | (simp only [Zh, Zd, Zi, cat, List.append_eq, List.append_assoc, List.cons_append, List.nil_append, List.append_nil]; omega) | (simp only [Zh, Zd, Zi, cat, List.append_eq, List.append_assoc, List.cons_append, List.nil_append, List.append_nil, StepL06V.segs]; omega)), ?_⟩
              clear hw
              refine congrArg Value.bool ?_
              simp only [Err.codes] at hc
              first
              | grind
              | (have hd := codesL_take (l := l1) (k := k) (by omega); have hsub : x ∈ codesL l1 := codesL_sub (by rw [hd]; exact List.mem_append_right _ (by simp_all)); simp_all; done)
              | (have hk9 : k = l1.length := (by omega); subst hk9; rw [List.take_length] at hI; simp_all; done)
          · first | replace hc4 := dT hc4 | replace hc4 := dF hc4 | replace hc4 := nT hc4 | replace hc4 := nF hc4 | skip
            first
            | (exfalso; omega)
            | (exfalso; simp [eqX] at hc4; done)
            | contradiction
            | skip
              refine Zu ?_; refine Zbk ?_; refine Zb ?_; refine Za (l := [0, 1]) rfl ?_; refine Zai rfl rfl rfl rfl rfl (by first | exact Zt (by decide) (by omega) | exact Zz (by decide) (by omega) | exact Zae (by decide) (by omega) | exact Zm (by decide) (by omega) | exact Zah _ | exact Zay _ | exact Zak _ | exact rfl) rfl ?_; refine Zc rfl rfl rfl rfl ?_; refine Zf ?_; refine K_roundS (a' := [(45, _)]) (k + 1) (.cons (k := 45) rfl (.cons (k := 44) rfl (.cons (k := 43) rfl (.cons (k := 42) rfl (.cons (k := 10) rfl (.cons (k := 41) rfl (.cons (k := 40) rfl (.cons (k := 39) rfl (.cons (k := 34) rfl (.cons (k := 33) rfl (.cons (k := 32) rfl (.cons (k := 31) rfl (.cons (k := 30) rfl (.cons (k := 29) rfl (.cons (k := 28) rfl (.cons (k := 27) rfl (.cons (k := 26) rfl (.cons (k := 25) rfl (.cons (k := 8) rfl (.cons (k := 7) rfl (.cons (k := 24) rfl (.cons (k := 23) rfl (.cons (k := 20) rfl (.cons (k := 22) rfl (.cons (k := 21) rfl (.cons (k := 19) rfl (.cons (k := 18) rfl (.cons (k := 17) rfl (.cons (k := 16) rfl (.cons (k := 15) rfl (.cons (k := 14) rfl (.cons (k := 0) rfl (.cons (k := 6) rfl (.cons (k := 1) rfl (.cons (k := 2) rfl (.nil)))))))))))))))))))))))))))))))))))) (fun w hw => by first | exact hw | exact hw.cnt (by intro zz; first | exact Nat.le_refl _ | (simp only [Zh, Zd, Zi, cat, List.append_eq, List.append_assoc, List.cons_append, List.nil_append, List.append_nil]; omega) | (simp only [Zh, Zd, Zi, cat, List.append_eq, List.append_assoc, List.cons_append, List.nil_append, List.append_nil, StepL06V.segs]; omega))) ?_ ?_
              · refine ⟨rfl, by omega, ?_⟩
                rw [codesL_take (by omega)]; simp_all
              · omega
      · first | replace hc3 := dT hc3 | replace hc3 := dF hc3 | replace hc3 := nT hc3 | replace hc3 := nF hc3 | skip
        first
        | (exfalso; omega)
        | (exfalso; simp [eqX] at hc3; done)
        | contradiction
        | skip
          refine Zbt ?_; refine Zbd ?_; refine Zbd ?_; refine Zca ?_; refine Zb ?_; refine Zj ?_; refine Za (l := [0]) rfl ?_; refine Ze rfl rfl rfl rfl ?_; refine Zf ?_; refine Zb ?_; refine Zag ?_; refine Zaw ?_; refine Zaw ?_; refine Zam ?_; refine Zaw ?_
          refine Zab (.inr rfl) (.tmp rfl .nil) (fun w hw => ?_)
          refine ⟨_, rfl, hw.cnt (by intro zz; first | exact Nat.le_refl _ | (simp only [Zh, Zd, Zi, cat, List.append_eq, List.append_assoc, List.cons_append, List.nil_append, List.append_nil]; omega) | (simp only [Zh, Zd, Zi, cat, List.append_eq, List.append_assoc, List.cons_append, List.nil_append, List.append_nil, StepL06V.segs]; omega)), ?_⟩
          clear hw
          refine congrArg Value.bool ?_
          simp only [Err.codes] at hc
          first
          | grind
          | (have hd := codesL_take (l := l1) (k := k) (by omega); have hsub : x ∈ codesL l1 := codesL_sub (by rw [hd]; exact List.mem_append_right _ (by simp_all)); simp_all; done)
          | (have hk9 : k = l1.length := (by omega); subst hk9; rw [List.take_length] at hI; simp_all; done)
theorem is_ok (M : Mem) (x : Int) (e : Err) (v : Value) (hv : ErrV M e v) : Fs Tryd.prog 36 [v, .iface 60 (aggV [.one (.int .i64 x)]), .bool true] M (fun r => r = .bool (decide (x ∈ e.codes))) := is_aux M x e.big e v (Nat.le_refl _) hv
end Go.Proofs.YtbeahcfghjiogaaDoor
namespace Go.Proofs.YtbeahcfghjiogaaDoor
open Go Go.Esp Go.Extern
theorem R.ext_TypeOf : Ext Tryd.prog 35 ReflectliteType.typeOf := fun args w => by kernel_rfl
theorem R.ext_Comparable : Ext Tryd.prog 88 (ReflectliteType.method fun t => do Rtype.noPackHeld "Comparable" t; pure (.bool (← typeInfo t).comparable)) := fun args w => by kernel_rfl
theorem R.ext_ValueOf : Ext Tryd.prog 31 (fun args => ReflectliteValue.unpack (args.getD 0 (.tuple #[]))) := fun args w => by kernel_rfl
theorem R.ext_VType : Ext Tryd.prog 32 (ReflectliteValue.methodAny (ReflectliteValue.valueError "reflectlite.Value.Type" 0) (fun t _ _ _ => ReflectliteType.toType t)) := fun args w => by kernel_rfl
theorem R.ext_Kind : Ext Tryd.prog 53 (ReflectliteType.abiMethod fun t => do pure (.int .u8 (← Rtype.kind t))) := fun args w => by kernel_rfl
theorem R.ext_IsNil : Ext Tryd.prog 33 (ReflectliteValue.method (ReflectliteValue.valueError "reflectlite.Value.IsNil" 0) ReflectliteValue.isNil) := fun args w => by kernel_rfl
theorem R.ext_Elem : Ext Tryd.prog 89 (ReflectliteType.method ReflectliteType.elem) := fun args w => by kernel_rfl
theorem R.ext_Implements : Ext Tryd.prog 90 (ReflectliteType.relation "Implements" ReflectliteType.implements_) := fun args w => by kernel_rfl
theorem R.ext_AssignableTo : Ext Tryd.prog 87 (ReflectliteType.relation "AssignableTo" ReflectliteType.assignableTo) := fun args w => by kernel_rfl
theorem R.ext_VElem : Ext Tryd.prog 37 (ReflectliteValue.method (ReflectliteValue.valueError "reflectlite.Value.Elem" 0) ReflectliteValue.elem) := fun args w => by kernel_rfl
theorem R.ext_VSet : Ext Tryd.prog 38 ReflectliteValue.set := fun args w => by kernel_rfl
theorem R.tyo60 (v : Value) (w : World) : (ReflectliteType.typeOf #[.iface 60 v]).run Tryd.prog w = .ok (.iface 87 (.agg #[.pointer (some ⟨5, 60, none⟩)])) w := by kernel_rfl
theorem R.tyo66 (v : Value) (w : World) : (ReflectliteType.typeOf #[.iface 66 v]).run Tryd.prog w = .ok (.iface 87 (.agg #[.pointer (some ⟨5, 66, none⟩)])) w := by kernel_rfl
theorem R.tyo69 (v : Value) (w : World) : (ReflectliteType.typeOf #[.iface 69 v]).run Tryd.prog w = .ok (.iface 87 (.agg #[.pointer (some ⟨5, 69, none⟩)])) w := by kernel_rfl
theorem R.m_Comparable (h : Value) : Meth Tryd.prog 87 (.agg #[h]) "Comparable" 88 (.agg #[h]) := fun w => by kernel_rfl
theorem R.m_Kind (h : Value) : Meth Tryd.prog 87 (.agg #[h]) "Kind" 53 (h) := fun w => by kernel_rfl
theorem R.m_Elem (h : Value) : Meth Tryd.prog 87 (.agg #[h]) "Elem" 89 (.agg #[h]) := fun w => by kernel_rfl
theorem R.m_Implements (h : Value) : Meth Tryd.prog 87 (.agg #[h]) "Implements" 90 (.agg #[h]) := fun w => by kernel_rfl
theorem R.m_AssignableTo (h : Value) : Meth Tryd.prog 87 (.agg #[h]) "AssignableTo" 87 (.agg #[h]) := fun w => by kernel_rfl
theorem R.cmp (w : World) : ((ReflectliteType.method fun t => do Rtype.noPackHeld "Comparable" t; pure (.bool (← typeInfo t).comparable)) #[.agg #[.pointer (some ⟨5, 60, none⟩)]]).run Tryd.prog w = .ok (.bool true) w := by kernel_rfl
theorem R.vo62 (t : Addr) (w : World) : (ReflectliteValue.unpack (.iface 62 (.pointer (some t)))).run Tryd.prog w = .ok (.agg #[.pointer (some ⟨5, 62, none⟩), .pointer (some ⟨w.heap.size, 0, none⟩), .int .u64 150]) (w.alloc (.cells #[.pointer (some t)] 62)) := by kernel_rfl
theorem R.vo60 (c : Value) (w : World) : (ReflectliteValue.unpack (.iface 60 (.agg #[c]))).run Tryd.prog w = .ok (.agg #[.pointer (some ⟨5, 60, none⟩), .pointer (some ⟨w.heap.size, 0, none⟩), .int .u64 153]) (w.alloc (.cells #[c] 60)) := by kernel_rfl
theorem R.vty (a : Addr) (w : World) : ((ReflectliteValue.methodAny (ReflectliteValue.valueError "reflectlite.Value.Type" 0) (fun t _ _ _ => ReflectliteType.toType t)) #[.agg #[.pointer (some ⟨5, 62, none⟩), .pointer (some a), .int .u64 150]]).run Tryd.prog w = .ok (.iface 87 (.agg #[.pointer (some ⟨5, 62, none⟩)])) w := by kernel_rfl
theorem R.kind62 (w : World) : ((ReflectliteType.abiMethod fun t => do pure (.int .u8 (← Rtype.kind t))) #[.pointer (some ⟨5, 62, none⟩)]).run Tryd.prog w = .ok (.int .u8 22) w := by kernel_rfl
theorem R.kind60 (w : World) : ((ReflectliteType.abiMethod fun t => do pure (.int .u8 (← Rtype.kind t))) #[.pointer (some ⟨5, 60, none⟩)]).run Tryd.prog w = .ok (.int .u8 25) w := by kernel_rfl
theorem R.elem (w : World) : ((ReflectliteType.method ReflectliteType.elem) #[.agg #[.pointer (some ⟨5, 62, none⟩)]]).run Tryd.prog w = .ok (.iface 87 (.agg #[.pointer (some ⟨5, 60, none⟩)])) w := by kernel_rfl
theorem R.imp (w : World) : ((ReflectliteType.relation "Implements" ReflectliteType.implements_) #[.agg #[.pointer (some ⟨5, 60, none⟩)], .iface 87 (.agg #[.pointer (some ⟨5, 30, none⟩)])]).run Tryd.prog w = .ok (.bool true) w := by kernel_rfl
theorem R.asg60 (w : World) : ((ReflectliteType.relation "AssignableTo" ReflectliteType.assignableTo) #[.agg #[.pointer (some ⟨5, 60, none⟩)], .iface 87 (.agg #[.pointer (some ⟨5, 60, none⟩)])]).run Tryd.prog w = .ok (.bool true) w := by kernel_rfl
theorem R.asg66 (w : World) : ((ReflectliteType.relation "AssignableTo" ReflectliteType.assignableTo) #[.agg #[.pointer (some ⟨5, 66, none⟩)], .iface 87 (.agg #[.pointer (some ⟨5, 60, none⟩)])]).run Tryd.prog w = .ok (.bool false) w := by kernel_rfl
theorem R.asg69 (w : World) : ((ReflectliteType.relation "AssignableTo" ReflectliteType.assignableTo) #[.agg #[.pointer (some ⟨5, 69, none⟩)], .iface 87 (.agg #[.pointer (some ⟨5, 60, none⟩)])]).run Tryd.prog w = .ok (.bool false) w := by kernel_rfl
theorem R.partsP (a : Addr) (w : World) : (ReflectliteValue.parts (.agg #[.pointer (some ⟨5, 62, none⟩), .pointer (some a), .int .u64 150])).run Tryd.prog w = .ok (some (62, a, 150)) w := by kernel_rfl
theorem R.partsA (a : Addr) (w : World) : (ReflectliteValue.parts (.agg #[.pointer (some ⟨5, 60, none⟩), .pointer (some a), .int .u64 409])).run Tryd.prog w = .ok (some (60, a, 409)) w := by kernel_rfl
theorem R.partsC (a : Addr) (w : World) : (ReflectliteValue.parts (.agg #[.pointer (some ⟨5, 60, none⟩), .pointer (some a), .int .u64 153])).run Tryd.prog w = .ok (some (60, a, 153)) w := by kernel_rfl
theorem R.elemOf (w : World) : (Rtype.elem? 62).run Tryd.prog w = .ok (some 60) w := by kernel_rfl
theorem R.mkA (p : Addr) (w : World) : (ReflectliteValue.mk 60 p ReflectliteValue.flagAddr).run Tryd.prog w = .ok (.agg #[.pointer (some ⟨5, 60, none⟩), .pointer (some p), .int .u64 409]) w := by kernel_rfl
theorem R.direct (w : World) : (Rtype.directlyAssignable 60 60).run Tryd.prog w = .ok (true) w := by kernel_rfl
theorem R.rlm (z : Sem Value) (f : TypeId → Addr → Nat → Nat → Sem Value) (v : Value) :
    ReflectliteValue.method z f #[v] = (do match ← ReflectliteValue.parts v with | none => z | some (t, a, fl) => f t a fl (fl % 32)) := rfl
theorem R.isNil (a p : Addr) (W : World) (ha : W.cell? a = some (.pointer (some p))) : ((ReflectliteValue.method (ReflectliteValue.valueError "reflectlite.Value.IsNil" 0) ReflectliteValue.isNil) #[.agg #[.pointer (some ⟨5, 62, none⟩), .pointer (some a), .int .u64 150]]).run Tryd.prog W = .ok (.bool false) W := by
  rw [R.rlm]
  simp only [Sem.run_bind, R.partsP, Result.andThen]
  simp [ReflectliteValue.isNil, loadVar, isAgg, underlying, Tryd.underlying62, ha, Result.andThen]
theorem R.vElem (a p : Addr) (W : World) (ha : W.cell? a = some (.pointer (some p))) : ((ReflectliteValue.method (ReflectliteValue.valueError "reflectlite.Value.Elem" 0) ReflectliteValue.elem) #[.agg #[.pointer (some ⟨5, 62, none⟩), .pointer (some a), .int .u64 150]]).run Tryd.prog W = .ok (.agg #[.pointer (some ⟨5, 60, none⟩), .pointer (some p), .int .u64 409]) W := by
  rw [R.rlm]
  simp only [Sem.run_bind, R.partsP, Result.andThen]
  simp [ReflectliteValue.elem, loadVar, isAgg, underlying, Tryd.underlying62, ha, Result.andThen, R.elemOf, R.mkA]
theorem R.rls (v x : Value) : ReflectliteValue.set #[v, x] = (do
    let (some (dst, a, fl), some (src, b, _)) := (← ReflectliteValue.parts v, ← ReflectliteValue.parts x)
      | unsupported (.noEntry "extern/(internal/reflectlite.Value).Set.zeroValue")
    if fl / ReflectliteValue.flagAddr % 2 == 0 then unsupported (.noEntry "extern/(internal/reflectlite.Value).Set.unaddressable")
    let val ← loadVar src b
    if ← Rtype.directlyAssignable dst src then storeVar dst a val
    else if ← Rtype.implements dst src then
      if (← Rtype.kind src) == 20 then
        match val with
        | .nilIface => unsupported (.noEntry "extern/reflectlite: a nil value of one interface type handed on as a value of another")
        | _ => storeVar dst a val
      else storeVar dst a (.iface src val)
    else panicString ("reflectlite.Set: value of type " ++ (← Rtype.spelt src) ++ " is not assignable to type " ++ (← Rtype.spelt dst))
    pure (.tuple #[])) := rfl
theorem R.lay : lay Tryd.prog 60 = some (true, 1) := by kernel_rfl
theorem R.set (bt b : Nat) (z c : Int) (T : TypeId) (W : World) (hb : W.heap[b]? = some (rowO [.one (.int .i64 c)] T)) (ht : W.heap[bt]? = some (rowO [.one (.int .i64 z)] 60)) :
    ∃ w', (ReflectliteValue.set #[.agg #[.pointer (some ⟨5, 60, none⟩), .pointer (some ⟨bt, 0, none⟩), .int .u64 409], .agg #[.pointer (some ⟨5, 60, none⟩), .pointer (some ⟨b, 0, none⟩), .int .u64 153]]).run Tryd.prog W = .ok (.tuple #[]) w' ∧
      w'.heap[bt]? = some (rowO [.one (.int .i64 c)] 60) ∧ (∀ d, d ≠ bt → w'.heap[d]? = W.heap[d]?) ∧ SameIO W w' := by
  have h1 : (loadVar 60 ⟨b, 0, none⟩).run Tryd.prog W = .ok (aggV [.one (.int .i64 c)]) W := run_loadVar' (r := [.one (.int .i64 c)]) hb R.lay rfl rfl rfl
  obtain ⟨w', h2, h3, h4, h5⟩ := run_storeAt' (P := Tryd.prog) (q := [.one (.int .i64 c)]) (u := [.one (.int .i64 c)]) (off := 0) ht R.lay (.agg _) (Zaf rfl Zap) rfl rfl
  refine ⟨w', ?_, h3, h4, h5⟩
  have h2' : (storeVar 60 ⟨bt, 0, none⟩ (aggV [.one (.int .i64 c)])).run Tryd.prog W = .ok () w' := h2
  rw [R.rls]
  simp only [Sem.run_bind, R.partsA, R.partsC, Result.andThen]
  simp [ReflectliteValue.flagAddr, h1, Result.andThen, R.direct, h2']
theorem R.setSt (bt b : Nat) (z c : Int) (T : TypeId) {M : Mem} {H H' : Hp} (hu : Upd bt (rowO [.one (.int .i64 z)] 60) (rowO [.one (.int .i64 c)] 60) H H') (hb : (b, rowO [.one (.int .i64 c)] T) ∈ H) :
    ∀ F w, St M (F ++ H) w → ∃ w', (ReflectliteValue.set #[.agg #[.pointer (some ⟨5, 60, none⟩), .pointer (some ⟨bt, 0, none⟩), .int .u64 409], .agg #[.pointer (some ⟨5, 60, none⟩), .pointer (some ⟨b, 0, none⟩), .int .u64 153]]).run Tryd.prog w = .ok (.tuple #[]) w' ∧ St M (F ++ H') w' := by
  intro F w hw
  obtain ⟨w', h1, h2, h3, h4⟩ := R.set bt b z c T w (hw.own _ _ (List.mem_append_right _ hb)) (hw.own _ _ (List.mem_append_right _ hu.mem))
  exact ⟨w', h1, hw.upd (hu.over F) h2 (fun d hd x hx => by rw [h3 d hd]; exact hx) h4⟩
end Go.Proofs.YtbeahcfghjiogaaDoor
namespace Go.Proofs.YtbeahcfghjiogaaDoor
open Go.Esp
theorem F.foff60_0 : foff Tryd.prog 60 0 = some 0 := by kernel_rfl
theorem F.lay23 : lay Tryd.prog 23 = some (false, 1) := by kernel_rfl
theorem F.lay75 : lay Tryd.prog 75 = some (true, 3) := by kernel_rfl
theorem F.lay78 : lay Tryd.prog 78 = some (false, 1) := by kernel_rfl
theorem F.ok28 : okFn Tryd.prog 28 = true := by kernel_rfl
theorem F.ok34 : okFn Tryd.prog 34 = true := by kernel_rfl
theorem F.ta66_91 (v : Value) (w : World) : (Instr.typeAssert (.iface 66 v) 30 91 true).run Tryd.prog w = .ok (.tuple #[.nilIface, .bool false]) w := run_typeAssert_lacksB Tryd.underlying91 (by kernel_rfl) (by kernel_rfl) v 30 w
theorem F.ta69_91 (v : Value) (w : World) : (Instr.typeAssert (.iface 69 v) 30 91 true).run Tryd.prog w = .ok (.tuple #[.nilIface, .bool false]) w := run_typeAssert_lacksB Tryd.underlying91 (by kernel_rfl) (by kernel_rfl) v 30 w
theorem F.zero60 : zeroOf Tryd.prog 60 = some (aggV [.one (.int .i64 0)]) := by kernel_rfl
theorem F.zero75 : zeroOf Tryd.prog 75 = some (aggV [.one (.pointer none), .one (.pointer none), .one (.int .u64 0)]) := by kernel_rfl
theorem eIs_ok (M : Mem) (x : Int) (e : Err) (v : Value) (he : ErrV M e v) : Fs Tryd.prog 30 [v, .iface 60 (aggV [.one (.int .i64 x)])] M (fun r => r = .bool (decide (x ∈ e.codes))) := by
  obtain ⟨t1, u1, rfl⟩ := he.iface
  refine Zbb Tryd.func30 rfl Tryd.ntmps30 rfl ?_; intro H
  refine Zj ?_; refine Za (l := [0]) rfl ?_; refine Ze rfl rfl rfl rfl ?_; refine Zf ?_; refine Zb ?_; refine Zj ?_; refine Zj ?_; refine Za (l := [0, 1, 2, 3, 4, 5]) rfl ?_; refine Zc rfl rfl rfl rfl ?_; refine Zby rfl rfl rfl rfl Tryd.underlying30 rfl rfl ?_; refine Zc rfl rfl rfl rfl ?_
  refine Zbz 8 rfl (fun hc1 => ?_) (fun hc1 => ?_)
  · first | replace hc1 := dT hc1 | replace hc1 := dF hc1 | replace hc1 := nT hc1 | replace hc1 := nF hc1 | skip
    first
    | (exfalso; omega)
    | (exfalso; simp [eqX] at hc1; done)
    | contradiction
    | skip
      refine Zba rfl rfl rfl ?_; refine Zba rfl rfl rfl ?_; refine Zau rfl rfl rfl rfl rfl ?_; refine Zf ?_; refine Zb ?_; refine Zk (.cons (k := 11) rfl (.cons (k := 4) rfl (.cons (k := 0) rfl (.cons (k := 1) rfl .nil)))) ?_; refine Zcc rfl ?_; refine Zj ?_; refine Za (l := [0, 1, 2, 3]) rfl ?_; refine Zc rfl rfl rfl rfl ?_; refine Zc rfl rfl rfl rfl ?_
      fail
      refine Ze rfl rfl rfl rfl ?_; refine Zf ?_; refine Zb ?_; refine Zk (.cons (k := 4) rfl (.cons (k := 0) rfl (.cons (k := 1) rfl .nil))) ?_; refine Zag ?_; refine Zam ?_
      refine Zab (.inr rfl) (.tmp rfl .nil) (fun w hw => ?_)
      exact ⟨_, rfl, hw.cnt (by intro zz; first | exact Nat.le_refl _ | (simp only [Zh, Zd, Zi, cat, List.append_eq, List.append_assoc, List.cons_append, List.nil_append, List.append_nil]; omega) | (simp only [Zh, Zd, Zi, cat, List.append_eq, List.append_assoc, List.cons_append, List.nil_append, List.append_nil, StepL06V.segs]; omega)), rfl⟩
  · first | replace hc1 := dT hc1 | replace hc1 := dF hc1 | replace hc1 := nT hc1 | replace hc1 := nF hc1 | skip
    first
    | (exfalso; omega)
    | (exfalso; simp [eqX] at hc1; done)
    | contradiction
    | skip
      refine Zc rfl rfl rfl rfl ?_; refine Zby rfl rfl rfl rfl Tryd.underlying30 rfl rfl ?_; refine Zau rfl rfl rfl rfl rfl ?_; refine Zf ?_; refine Zb ?_; refine Zk (.cons (k := 11) rfl (.cons (k := 4) rfl (.cons (k := 0) rfl (.cons (k := 1) rfl .nil)))) ?_
      refine Zx rfl (fun hc2 => ?_) (fun hc2 => ?_)
      · first | replace hc2 := dT hc2 | replace hc2 := dF hc2 | replace hc2 := nT hc2 | replace hc2 := nF hc2 | skip
        first | (exfalso; omega) | (exfalso; simp [eqX] at hc2; done) | contradiction
      · first | replace hc2 := dT hc2 | replace hc2 := dF hc2 | replace hc2 := nT hc2 | replace hc2 := nF hc2 | skip
        first
        | (exfalso; omega)
        | (exfalso; simp [eqX] at hc2; done)
        | contradiction
        | skip
          refine Zu ?_; refine Zb ?_; refine Zk (.cons (k := 4) rfl (.cons (k := 0) rfl (.cons (k := 1) rfl .nil))) ?_; refine Zj ?_; refine Za (l := [0, 1, 2, 3]) rfl ?_; refine Zc rfl rfl rfl rfl ?_; refine X_ext rfl rfl R.ext_TypeOf rfl (fun w hw => R.tyo60 _ w) rfl ?_; refine X_invE rfl rfl rfl (R.m_Comparable _) R.ext_Comparable rfl (fun w hw => R.cmp w) rfl ?_; refine Ze rfl rfl rfl rfl ?_; refine Zf ?_; refine Zb ?_; refine Zk (.cons (k := 5) rfl (.cons (k := 4) rfl (.cons (k := 0) rfl (.cons (k := 1) rfl .nil)))) ?_; refine Zj ?_; refine Za (l := [0, 1, 2, 3, 4]) rfl ?_; refine Zc rfl rfl rfl rfl ?_; refine Zc rfl rfl rfl rfl ?_; refine Zc rfl rfl rfl rfl ?_; refine X_fs rfl rfl F.ok36 rfl (is_ok M x e _ he) rfl ?_
          rintro _ rfl
          refine Ze rfl rfl rfl rfl ?_; refine Zf ?_; refine Zb ?_; refine Zk (.cons (k := 4) rfl .nil) ?_; refine Zag ?_
          refine Zab (.inr rfl) (.tmp rfl .nil) (fun w hw => ?_)
          exact ⟨_, rfl, hw.cnt (by intro zz; first | exact Nat.le_refl _ | (simp only [Zh, Zd, Zi, cat, List.append_eq, List.append_assoc, List.cons_append, List.nil_append, List.append_nil]; omega) | (simp only [Zh, Zd, Zi, cat, List.append_eq, List.append_assoc, List.cons_append, List.nil_append, List.append_nil, StepL06V.segs]; omega)), rfl⟩
theorem as_aux (M : Mem) (bt bv : Nat) (z : Int) : ∀ (n : Nat) (e : Err) (v : Value), e.big ≤ n → ErrV M e v → Fh Tryd.prog 34 [v, .iface 62 (.pointer (some ⟨bt, 0, none⟩)), aggV [.one (.pointer (some ⟨5, 62, none⟩)), .one (.pointer (some ⟨bv, 0, none⟩)), .one (.int .u64 150)], .iface 87 (.agg #[.pointer (some ⟨5, 60, none⟩)])] M [(bv, rowO [.one (.pointer (some ⟨bt, 0, none⟩))] 62), (bt, rowO [.one (.int .i64 z)] 60)] (fun M' r Hout => M' = M ∧ r = .bool true ∧ Hout = [(bv, rowO [.one (.pointer (some ⟨bt, 0, none⟩))] 62), (bt, rowO [.one (.int .i64 (e.codes.headD 0))] 60)])
  | 0, e, v, hn, hv0 => by cases e <;> simp [Err.big] at hn
  | n + 1, e, v, hn, hv0 => by
    have ih := fun e v (h : Err.big e ≤ n) h2 => as_aux M bt bv z n e v h h2
    refine fh_enterF (fun H => (bv, rowO [.one (.pointer (some ⟨bt, 0, none⟩))] 62) :: (bt, rowO [.one (.int .i64 z)] 60) :: H) (fun _ => rfl) Tryd.func34 rfl Tryd.ntmps34 rfl ?_; intro H
    refine Zj ?_; refine Za (l := [0, 1]) rfl ?_
    refine X_box rfl rfl rfl (by constructor) rfl ?_; intro b1
    refine Ze rfl rfl rfl rfl ?_; refine Zf ?_; refine Zb ?_; refine Zk (.cons (k := 8) rfl (.cons (k := 6) rfl (.cons (k := 0) rfl (.cons (k := 1) rfl (.cons (k := 3) rfl .nil))))) ?_; refine Zaa ?_; refine Zk (.cons (k := 0) rfl (.cons (k := 8) rfl (.cons (k := 6) rfl (.cons (k := 1) rfl (.cons (k := 3) rfl .nil))))) ?_; refine C_loopS (.succ .zero) (fun (e1 : Err) zz => ∃ v1, zz = [(0, v1)] ∧ ErrV M e1 v1 ∧ e1.big ≤ e.big ∧ e1.codes.headD 0 = e.codes.headD 0) (Err.big) (e) (⟨v, rfl, hv0, Nat.le_refl _, rfl⟩) ?_
    rintro e1 zz ⟨v1, rfl, hv, hb, hc⟩
    rcases e1 with c | ⟨op1, e2⟩ | l1
    · obtain rfl : v1 = .iface 60 (aggV [.one (.int .i64 c)]) := hv
      refine Zaa ?_; refine Zj ?_; refine Zj ?_; refine Za (l := [0, 1, 2, 3]) rfl ?_; refine Zc rfl rfl rfl rfl ?_; refine X_ext rfl rfl R.ext_TypeOf rfl (fun w hw => R.tyo60 _ w) rfl ?_; refine Zc rfl rfl rfl rfl ?_; refine X_invE rfl rfl rfl (R.m_AssignableTo _) R.ext_AssignableTo rfl (fun w hw => R.asg60 w) rfl ?_; refine Zf ?_; refine Zb ?_; refine Zcc rfl ?_; refine Zj ?_; refine Zbl (l := [0, 1, 2, 3, 4]) (Hin := [(bt, _)]) (by repeat first | exact Rem.here _ | exact Rem.two | apply Rem.skip | apply Rem.over) rfl ?_
      first | refine Zan rfl rfl rfl (by repeat first | exact List.Mem.head _ | refine List.Mem.tail _ ?_ | refine List.mem_append_right _ ?_) F.lay75 rfl rfl rfl ?_ | refine Zs rfl rfl rfl (by first | assumption | exact SlM.mono (by assumption) (by assumption)) (by first | exact Zg (by omega) | exact List.getElem?_eq_getElem (by omega) | exact rfl | exact Zg (by first | (simp; done) | (simp; omega))) F.lay75 rfl rfl rfl ?_ | refine Zr rfl rfl rfl (by assumption) (by first | exact Zg (by omega) | exact List.getElem?_eq_getElem (by omega) | exact rfl | exact Zg (by first | (simp; done) | (simp; omega))) F.lay75 rfl rfl rfl ?_ | refine Zp rfl rfl rfl (by first | assumption | exact Mem.get_of (by assumption) (by repeat first | assumption | refine Mem.le.trans (by assumption) ?_)) F.lay75 rfl rfl rfl ?_ | refine Zo rfl rfl rfl (by assumption) (by repeat first | exact Rem.here _ | exact Rem.two | apply Rem.skip | apply Rem.over) (by first | exact Zg (by omega) | exact List.getElem?_eq_getElem (by omega) | exact rfl | exact Zg (by first | (simp; done) | (simp; omega))) F.lay75 rfl rfl rfl ?_
      refine X_ext rfl rfl R.ext_VElem rfl (fun w hw => R.vElem _ ⟨bt, 0, none⟩ w (by rw [Go.Esp.cell_of_row (hw.own bv (rowO [.one (.pointer (some ⟨bt, 0, none⟩))] 62) (by repeat first | exact List.Mem.head _ | refine List.Mem.tail _ ?_ | refine List.mem_append_right _ ?_))]; rfl)) rfl ?_; refine Zc rfl rfl rfl rfl ?_
      refine X_extA (v := fun b => aggV [.one (.pointer (some ⟨5, 60, none⟩)), .one (.pointer (some ⟨b, 0, none⟩)), .one (.int .u64 153)]) (o := rowO [.one (.int .i64 c)] 60) rfl rfl R.ext_ValueOf rfl (fun w => R.vo60 _ w) rfl ?_; intro b9
      refine X_extW rfl rfl R.ext_VSet rfl (R.setSt bt b9 z c 60 (by repeat first | exact Upd.head | apply Upd.tail | apply Upd.over) (by repeat first | exact List.Mem.head _ | refine List.Mem.tail _ ?_ | refine List.mem_append_right _ ?_)) (fun _ h => h.cnt (by intro zz; first | exact Nat.le_refl _ | (simp only [Zh, Zd, Zi, cat, List.append_eq, List.append_assoc, List.cons_append, List.nil_append, List.append_nil]; omega) | (simp only [Zh, Zd, Zi, cat, List.append_eq, List.append_assoc, List.cons_append, List.nil_append, List.append_nil, StepL06V.segs]; omega))) rfl ?_; refine Zf ?_; refine Zb ?_; refine Zk (.cons (k := 23) rfl (.cons (k := 22) rfl (.cons (k := 21) rfl (.cons (k := 20) rfl (.cons (k := 19) rfl (.cons (k := 18) rfl (.cons (k := 17) rfl (.cons (k := 16) rfl (.cons (k := 0) rfl (.cons (k := 8) rfl (.cons (k := 6) rfl (.cons (k := 1) rfl (.cons (k := 3) rfl .nil))))))))))))) ?_
      refine Zj ?_; refine Za (l := [0]) rfl ?_; refine Ze rfl rfl rfl rfl ?_; refine Zf ?_; refine Zb ?_; refine Zag ?_; refine Zam ?_; refine Zaw ?_; refine Zam ?_; refine Zaw ?_
      refine Zab (.inr rfl) (.tmp rfl .nil) (fun w hw => ?_)
      refine ⟨_, M, [(bv, rowO [.one (.pointer (some ⟨bt, 0, none⟩))] 62), (bt, rowO [.one (.int .i64 c)] 60)], rfl, Mem.le.refl M, hw.cnt (by intro zz; first | exact Nat.le_refl _ | (simp only [Zh, Zd, Zi, cat, List.append_eq, List.append_assoc, List.cons_append, List.nil_append, List.append_nil]; omega) | (simp only [Zh, Zd, Zi, cat, List.append_eq, List.append_assoc, List.cons_append, List.nil_append, List.append_nil, StepL06V.segs]; omega)), rfl, rfl, ?_⟩
      rw [← hc]; rfl
    · obtain ⟨b1, w1, rfl, hb1, hw1⟩ := hv
      obtain ⟨t1, u1, rfl⟩ := hw1.iface
      refine Zaa ?_; refine Zj ?_; refine Zj ?_; refine Za (l := [0, 1, 2, 3]) rfl ?_; refine Zc rfl rfl rfl rfl ?_; refine X_ext rfl rfl R.ext_TypeOf rfl (fun w hw => R.tyo66 _ w) rfl ?_; refine Zc rfl rfl rfl rfl ?_; refine X_invE rfl rfl rfl (R.m_AssignableTo _) R.ext_AssignableTo rfl (fun w hw => R.asg66 w) rfl ?_; refine Zf ?_; refine Zb ?_; refine Zbe rfl ?_; refine Zu ?_; refine Zb ?_; refine Zj ?_; refine Zj ?_; refine Za (l := [0, 1, 2, 3, 4, 5, 6]) rfl ?_; refine Zc rfl rfl rfl rfl ?_; refine X_ta rfl rfl rfl (F.ta66_91 _) rfl ?_; refine Zc rfl rfl rfl rfl ?_; refine Zw rfl rfl rfl rfl rfl ?_; refine Zw rfl rfl rfl rfl rfl ?_; refine Ze rfl rfl rfl rfl ?_; refine Ze rfl rfl rfl rfl ?_; refine Zf ?_; refine Zb ?_; refine Zj ?_; refine Za (l := [0, 1, 2, 3, 4, 5]) rfl ?_; refine Zc rfl rfl rfl rfl ?_
      refine Zc rfl rfl rfl rfl ?_; refine Zba rfl rfl rfl ?_; refine Zba rfl rfl rfl ?_; refine Zba rfl rfl rfl ?_; refine Zau rfl rfl rfl rfl rfl ?_; refine Zf ?_; refine Zb ?_; refine Zbe rfl ?_; refine Zu ?_; refine Zb ?_; refine Zj ?_; refine Za (l := [0]) rfl ?_; refine Zc rfl rfl rfl rfl ?_; refine Zf ?_; refine Zb ?_; refine Zaa ?_; refine Zj ?_; refine Za (l := [0, 1, 2]) rfl ?_; refine X_ta rfl rfl rfl (F.ta66_94 _) rfl ?_; refine Zw rfl rfl rfl rfl rfl ?_; refine Zw rfl rfl rfl rfl rfl ?_; refine Zf ?_; refine Zb ?_; refine Zcc rfl ?_; refine Zj ?_; refine Za (l := [0]) rfl ?_; refine Ze rfl rfl rfl rfl ?_; refine Zf ?_; refine Zb ?_; refine Zj ?_; refine Za (l := [0, 1, 2]) rfl ?_; refine Zc rfl rfl rfl rfl ?_; refine X_invO rfl rfl rfl (F.meth66_Unwrap _) F.ok72 rfl (wUn_ok _ _ _ _ hb1) (Rem.here _ : Rem [] _ _) rfl ?_
      rintro _ M1 _ ⟨hM1, rfl⟩; subst M1
      refine Ze rfl rfl rfl rfl ?_; refine Zf ?_; refine Zb ?_; refine Zj ?_; refine Za (l := [0, 1]) rfl ?_; refine Zc rfl rfl rfl rfl ?_; refine Zby rfl rfl rfl rfl Tryd.underlying30 rfl rfl ?_; refine Zf ?_; refine Zb ?_
      refine Zx rfl (fun hc2 => ?_) (fun hc2 => ?_)
      · first | replace hc2 := dT hc2 | replace hc2 := dF hc2 | replace hc2 := nT hc2 | replace hc2 := nF hc2 | skip
        first
        | (exfalso; omega)
        | (exfalso; simp [eqX] at hc2; done)
        | contradiction
        | skip
          refine Zj ?_; refine Za (l := [0]) rfl ?_; refine Ze rfl rfl rfl rfl ?_; refine Zf ?_; refine Zb ?_; refine Zag ?_; refine Zaw ?_; refine Zaw ?_; refine Zam ?_; refine Zaw ?_
          refine Zab (.inr rfl) (.tmp rfl .nil) (fun w hw => ?_)
          refine ⟨_, M, [(bv, rowO [.one (.pointer (some ⟨bt, 0, none⟩))] 62), (bt, rowO [.one (.int .i64 (l1[k].codes.headD 0))] 60)], rfl, Mem.le.refl M, hw.cnt (by intro zz; first | exact Nat.le_refl _ | (simp only [Zh, Zd, Zi, cat, List.append_eq, List.append_assoc, List.cons_append, List.nil_append, List.append_nil]; omega) | (simp only [Zh, Zd, Zi, cat, List.append_eq, List.append_assoc, List.cons_append, List.nil_append, List.append_nil, StepL06V.segs]; omega)), rfl, rfl, ?_⟩
          have hk0 := hI
          subst hk0
          have h9 := head_join hws hlp
          rw [← hc, Err.codes, h9]
      · first | replace hc2 := dT hc2 | replace hc2 := dF hc2 | replace hc2 := nT hc2 | replace hc2 := nF hc2 | skip
        first
        | (exfalso; omega)
        | (exfalso; simp [eqX] at hc2; done)
        | contradiction
        | skip
          refine Zu ?_; refine Zbk ?_; refine Zbk ?_; refine K_roundS (a' := [(0, _)]) (e2) (.cons (k := 0) rfl (.cons (k := 8) rfl (.cons (k := 6) rfl (.cons (k := 1) rfl (.cons (k := 3) rfl (.nil)))))) (fun w hw => by first | exact hw | exact hw.cnt (by intro zz; first | exact Nat.le_refl _ | (simp only [Zh, Zd, Zi, cat, List.append_eq, List.append_assoc, List.cons_append, List.nil_append, List.append_nil]; omega) | (simp only [Zh, Zd, Zi, cat, List.append_eq, List.append_assoc, List.cons_append, List.nil_append, List.append_nil, StepL06V.segs]; omega))) ?_ ?_
          · exact ⟨_, rfl, hw1, by simp only [Err.big] at hb; omega, by simpa only [Err.codes] using hc⟩
          · simp only [Err.big]; omega
    · obtain ⟨hne, b1, ws, a1, c1, rfl, hb1, hs1, hl1, hws⟩ := hv
      have hlw := hws.len
      have nws : (ws.map fun u => ([.one u] : Segs)).length = ws.length := List.length_map ..
      have ml1 : ws.length ≤ 9223372036854775807 := hl1
      have hlp : 0 < l1.length := List.length_pos_iff.2 hne
      refine Zaa ?_; refine Zj ?_; refine Zj ?_; refine Za (l := [0, 1, 2, 3]) rfl ?_; refine Zc rfl rfl rfl rfl ?_; refine X_ext rfl rfl R.ext_TypeOf rfl (fun w hw => R.tyo69 _ w) rfl ?_; refine Zc rfl rfl rfl rfl ?_; refine X_invE rfl rfl rfl (R.m_AssignableTo _) R.ext_AssignableTo rfl (fun w hw => R.asg69 w) rfl ?_; refine Zf ?_; refine Zb ?_; refine Zbe rfl ?_; refine Zu ?_; refine Zb ?_; refine Zj ?_; refine Zj ?_; refine Za (l := [0, 1, 2, 3, 4, 5, 6]) rfl ?_; refine Zc rfl rfl rfl rfl ?_; refine X_ta rfl rfl rfl (F.ta69_91 _) rfl ?_; refine Zc rfl rfl rfl rfl ?_; refine Zw rfl rfl rfl rfl rfl ?_; refine Zw rfl rfl rfl rfl rfl ?_; refine Ze rfl rfl rfl rfl ?_; refine Ze rfl rfl rfl rfl ?_; refine Zf ?_; refine Zb ?_; refine Zj ?_; refine Za (l := [0, 1, 2, 3, 4, 5]) rfl ?_; refine Zc rfl rfl rfl rfl ?_
      refine Zc rfl rfl rfl rfl ?_; refine Zba rfl rfl rfl ?_; refine Zba rfl rfl rfl ?_; refine Zba rfl rfl rfl ?_; refine Zau rfl rfl rfl rfl rfl ?_; refine Zf ?_; refine Zb ?_; refine Zbe rfl ?_; refine Zu ?_; refine Zb ?_; refine Zj ?_; refine Za (l := [0]) rfl ?_; refine Zc rfl rfl rfl rfl ?_; refine Zf ?_; refine Zb ?_; refine Zaa ?_; refine Zj ?_; refine Za (l := [0, 1, 2]) rfl ?_; refine X_ta rfl rfl rfl (F.ta69_94 _) rfl ?_; refine Zw rfl rfl rfl rfl rfl ?_; refine Zw rfl rfl rfl rfl rfl ?_; refine Zf ?_; refine Zb ?_; refine Zbe rfl ?_; refine Zj ?_; refine Za (l := [0, 1, 2]) rfl ?_; refine X_ta rfl rfl rfl (F.ta69_96 _) rfl ?_; refine Zw rfl rfl rfl rfl rfl ?_; refine Zw rfl rfl rfl rfl rfl ?_; refine Zf ?_; refine Zb ?_; refine Zcc rfl ?_; refine Zj ?_
      refine Za (l := [0]) rfl ?_; refine Ze rfl rfl rfl rfl ?_; refine Zf ?_; refine Zb ?_; refine Zj ?_; refine Zj ?_; refine Za (l := [0, 1, 2, 3]) rfl ?_; refine Zc rfl rfl rfl rfl ?_; refine X_invO rfl rfl rfl (F.meth69_Unwrap _) F.ok74 rfl (jUn_ok _ _ _ hb1) (Rem.here _ : Rem [] _ _) rfl ?_
      rintro _ M1 _ ⟨hM1, rfl⟩; subst M1
      refine Zas rfl rfl rfl rfl F.elem25 rfl ?_; refine Zc rfl rfl rfl rfl ?_; refine Zf ?_; refine Zb ?_; refine Zaa ?_; refine Zk (.cons (k := 50) rfl (.cons (k := 49) rfl (.cons (k := 48) rfl (.cons (k := 47) rfl (.cons (k := 12) rfl (.cons (k := 46) rfl (.cons (k := 45) rfl (.cons (k := 44) rfl (.cons (k := 39) rfl (.cons (k := 38) rfl (.cons (k := 37) rfl (.cons (k := 36) rfl (.cons (k := 35) rfl (.cons (k := 34) rfl (.cons (k := 33) rfl (.cons (k := 32) rfl (.cons (k := 31) rfl (.cons (k := 30) rfl (.cons (k := 10) rfl (.cons (k := 9) rfl (.cons (k := 29) rfl (.cons (k := 28) rfl (.cons (k := 25) rfl (.cons (k := 27) rfl (.cons (k := 26) rfl (.cons (k := 19) rfl (.cons (k := 18) rfl (.cons (k := 17) rfl (.cons (k := 16) rfl (.cons (k := 0) rfl (.cons (k := 8) rfl (.cons (k := 6) rfl (.cons (k := 1) rfl (.cons (k := 3) rfl .nil)))))))))))))))))))))))))))))))))) ?_
      refine C_loopS (.succ .zero) (fun (k : Nat) z => z = [(50, .int .i64 (k : Int))] ∧ k ≤ ws.length ∧ (k = 0)) (fun k => ws.length - k) (0) (⟨rfl, by omega, by rfl⟩) ?_
      rintro k _ ⟨rfl, hk, hI⟩
      refine Zj ?_; refine Za (l := [0]) rfl ?_; refine Zao rfl rfl rfl rfl rfl rfl ?_; refine Zf ?_; refine Zb ?_; refine Zj ?_
      refine Zx rfl (fun hc3 => ?_) (fun hc3 => ?_)
      · first | replace hc3 := dT hc3 | replace hc3 := dF hc3 | replace hc3 := nT hc3 | replace hc3 := nF hc3 | skip
        first
        | (exfalso; omega)
        | (exfalso; simp [eqX] at hc3; done)
        | contradiction
        | skip
          refine Zu ?_; refine Zb ?_; refine Zj ?_; refine Zaa ?_; refine Zj ?_; refine Za (l := [0, 1, 2]) rfl ?_; refine Zn rfl rfl rfl rfl F.elem25 (by first | rfl | exact (Int.toNat_of_nonneg (by omega)).symm) (by first | omega | (simp; done) | (simp; omega)) (by first | exact ⟨_, _, rfl⟩ | assumption | exact SlM.plain (by assumption) (by first | (simp; done) | (simp; omega)) | exact RdS.plain (by assumption) (by first | (simp; done) | (simp; omega)) | exact OSl.plain (by assumption) (by first | (simp; done) | (simp; omega))) rfl ?_
          first | refine Zan rfl rfl rfl (by repeat first | exact List.Mem.head _ | refine List.Mem.tail _ ?_ | refine List.mem_append_right _ ?_) F.lay30 rfl rfl rfl ?_ | refine Zs rfl rfl rfl (by first | assumption | exact SlM.mono (by assumption) (by assumption)) (by first | exact Zg (by omega) | exact List.getElem?_eq_getElem (by omega) | exact rfl | exact Zg (by first | (simp; done) | (simp; omega))) F.lay30 rfl rfl rfl ?_ | refine Zr rfl rfl rfl (by assumption) (by first | exact Zg (by omega) | exact List.getElem?_eq_getElem (by omega) | exact rfl | exact Zg (by first | (simp; done) | (simp; omega))) F.lay30 rfl rfl rfl ?_ | refine Zp rfl rfl rfl (by first | assumption | exact Mem.get_of (by assumption) (by repeat first | assumption | refine Mem.le.trans (by assumption) ?_)) F.lay30 rfl rfl rfl ?_ | refine Zo rfl rfl rfl (by assumption) (by repeat first | exact Rem.here _ | exact Rem.two | apply Rem.skip | apply Rem.over) (by first | exact Zg (by omega) | exact List.getElem?_eq_getElem (by omega) | exact rfl | exact Zg (by first | (simp; done) | (simp; omega))) F.lay30 rfl rfl rfl ?_ | refine Zq rfl rfl rfl (by repeat first | exact List.Mem.head _ | refine List.Mem.tail _ ?_ | refine List.mem_append_right _ ?_) F.lay30 (by first | exact Zbj (by first | omega | decide) | exact Zax (by first | omega | decide)) rfl ?_
          refine Ze rfl rfl rfl rfl ?_; refine Zf ?_; refine Zb ?_; refine Zj ?_; refine Zj ?_; refine Za (l := [0, 1]) rfl ?_
          obtain ⟨t3, u3, hwk⟩ := (hws.at k (by omega) (by omega)).iface
          refine Zc rfl rfl rfl rfl ?_; refine Zbf 54 rfl hwk ?_; refine Zbf 14 rfl hwk ?_; refine Zby rfl rfl rfl rfl Tryd.underlying30 rfl rfl ?_; refine Zf ?_; refine Zb ?_
          refine Zx rfl (fun hc4 => ?_) (fun hc4 => ?_)
          · first | replace hc4 := dT hc4 | replace hc4 := dF hc4 | replace hc4 := nT hc4 | replace hc4 := nF hc4 | skip
            first | (exfalso; omega) | (exfalso; simp [eqX] at hc4; done) | contradiction
          · first | replace hc4 := dT hc4 | replace hc4 := dF hc4 | replace hc4 := nT hc4 | replace hc4 := nF hc4 | skip
            first
            | (exfalso; omega)
            | (exfalso; simp [eqX] at hc4; done)
            | contradiction
            | skip
              refine Zu ?_; refine Zb ?_; refine Zj ?_; refine Zbl (l := [0, 1, 2, 3, 4]) (Hin := [(bv, _), (bt, _)]) (by repeat first | exact Rem.here _ | exact Rem.two | apply Rem.skip | apply Rem.over) rfl ?_; refine Zc rfl rfl rfl rfl ?_; refine Zc rfl rfl rfl rfl ?_
              first | refine Zan rfl rfl rfl (by repeat first | exact List.Mem.head _ | refine List.Mem.tail _ ?_ | refine List.mem_append_right _ ?_) F.lay75 rfl rfl rfl ?_ | refine Zs rfl rfl rfl (by first | assumption | exact SlM.mono (by assumption) (by assumption)) (by first | exact Zg (by omega) | exact List.getElem?_eq_getElem (by omega) | exact rfl | exact Zg (by first | (simp; done) | (simp; omega))) F.lay75 rfl rfl rfl ?_ | refine Zr rfl rfl rfl (by assumption) (by first | exact Zg (by omega) | exact List.getElem?_eq_getElem (by omega) | exact rfl | exact Zg (by first | (simp; done) | (simp; omega))) F.lay75 rfl rfl rfl ?_ | refine Zp rfl rfl rfl (by first | assumption | exact Mem.get_of (by assumption) (by repeat first | assumption | refine Mem.le.trans (by assumption) ?_)) F.lay75 rfl rfl rfl ?_ | refine Zo rfl rfl rfl (by assumption) (by repeat first | exact Rem.here _ | exact Rem.two | apply Rem.skip | apply Rem.over) (by first | exact Zg (by omega) | exact List.getElem?_eq_getElem (by omega) | exact rfl | exact Zg (by first | (simp; done) | (simp; omega))) F.lay75 rfl rfl rfl ?_
              refine Zc rfl rfl rfl rfl ?_; refine Zcd rfl rfl F.ok34 rfl (ih l1[k] _ (by have h9 := big_mem (l := l1) (k := k) (by omega); simp only [Err.big] at hb; omega) (hwk ▸ hws.at k (by omega) (by omega))) (by repeat first | exact Rem.here _ | exact Rem.two | apply Rem.skip | apply Rem.over) (fun _ _ _ hm hw => (hw.lower (by first | exact hm | exact Mem.le.trans (by assumption) hm | exact Mem.le.trans (by first | exact Mem.le.refl _ | assumption | (repeat first | assumption | refine Mem.le.trans (by assumption) ?_)) hm)).cnt (by intro zz; first | exact Nat.le_refl _ | (simp only [Zh, Zd, Zi, cat, List.append_eq, List.append_assoc, List.cons_append, List.nil_append, List.append_nil]; omega) | (simp only [Zh, Zd, Zi, cat, List.append_eq, List.append_assoc, List.cons_append, List.nil_append, List.append_nil, StepL06V.segs]; omega))) (Zbh rfl) ?_
              rintro _ M2 Hb2 _ ⟨hM2, rfl, hH2⟩; subst M2; subst hH2
              refine Zf ?_; refine Zb ?_
              refine Zx rfl (fun hc5 => ?_) (fun hc5 => ?_)
              · first | replace hc5 := dT hc5 | replace hc5 := dF hc5 | replace hc5 := nT hc5 | replace hc5 := nF hc5 | skip
                first
                | (exfalso; omega)
                | (exfalso; simp [eqX] at hc5; done)
                | contradiction
                | skip
                  refine Zj ?_; refine Za (l := [0]) rfl ?_; refine Ze rfl rfl rfl rfl ?_; refine Zf ?_; refine Zb ?_; refine Zag ?_; refine Zaw ?_; refine Zam ?_; refine Zam ?_; refine Zaw ?_; refine Zam ?_; refine Zaw ?_; refine Zaw ?_; refine Zam ?_; refine Zaw ?_
                  refine Zab (.inr rfl) (.tmp rfl .nil) (fun w hw => ?_)
                  refine ⟨_, M, [(bv, rowO [.one (.pointer (some ⟨bt, 0, none⟩))] 62), (bt, rowO [.one (.int .i64 (l1[k].codes.headD 0))] 60)], rfl, Mem.le.refl M, hw.cnt (by intro zz; first | exact Nat.le_refl _ | (simp only [Zh, Zd, Zi, cat, List.append_eq, List.append_assoc, List.cons_append, List.nil_append, List.append_nil]; omega) | (simp only [Zh, Zd, Zi, cat, List.append_eq, List.append_assoc, List.cons_append, List.nil_append, List.append_nil, StepL06V.segs]; omega)), rfl, rfl, ?_⟩
                  have hk0 := hI
                  subst hk0
                  have h9 := head_join hws hlp
                  rw [← hc, Err.codes, h9]
              · first | replace hc5 := dT hc5 | replace hc5 := dF hc5 | replace hc5 := nT hc5 | replace hc5 := nF hc5 | skip
                first | (exfalso; omega) | (exfalso; simp [eqX] at hc5; done) | contradiction
      · first | replace hc3 := dT hc3 | replace hc3 := dF hc3 | replace hc3 := nT hc3 | replace hc3 := nF hc3 | skip
        first | (exfalso; omega) | (exfalso; simp [eqX] at hc3; done) | contradiction
theorem as_ok (M : Mem) (bt bv : Nat) (z : Int) (e : Err) (v : Value) (hv : ErrV M e v) : Fh Tryd.prog 34 [v, .iface 62 (.pointer (some ⟨bt, 0, none⟩)), aggV [.one (.pointer (some ⟨5, 62, none⟩)), .one (.pointer (some ⟨bv, 0, none⟩)), .one (.int .u64 150)], .iface 87 (.agg #[.pointer (some ⟨5, 60, none⟩)])] M [(bv, rowO [.one (.pointer (some ⟨bt, 0, none⟩))] 62), (bt, rowO [.one (.int .i64 z)] 60)] (fun M' r Hout => M' = M ∧ r = .bool true ∧ Hout = [(bv, rowO [.one (.pointer (some ⟨bt, 0, none⟩))] 62), (bt, rowO [.one (.int .i64 (e.codes.headD 0))] 60)]) := as_aux M bt bv z e.big e v (Nat.le_refl _) hv
structure EG (M : Mem) : Prop where
  h : ∃ c T fz, M 0 = some (.cells c T fz) ∧ c[0]? = some (.iface 87 (.agg #[.pointer (some ⟨5, 30, none⟩)]))
theorem EG.mono {M M' : Mem} (h : EG M) (hm : M.le M') : EG M' := ⟨let ⟨c, T, fz, h1, h2⟩ := h.h; ⟨c, T, fz, hm.1 _ _ h1, h2⟩⟩
theorem eAs_ok (M : Mem) (bt : Nat) (z : Int) (e : Err) (v : Value) (he : ErrV M e v) (hE : EG M) : Fh Tryd.prog 28 [v, .iface 62 (.pointer (some ⟨bt, 0, none⟩))] M [(bt, rowO [.one (.int .i64 z)] 60)] (fun M' r Hout => M' = M ∧ r = .bool true ∧ Hout = [(bt, rowO [.one (.int .i64 (e.codes.headD 0))] 60)]) := by
  obtain ⟨t1, u1, rfl⟩ := he.iface
  obtain ⟨gc, gT, gfz, hgl, hgv⟩ := hE.h
  refine fh_enterF (fun H => (bt, rowO [.one (.int .i64 z)] 60) :: H) (fun _ => rfl) Tryd.func28 rfl Tryd.ntmps28 rfl ?_; intro H
  refine Zj ?_; refine Za (l := [0]) rfl ?_; refine Ze rfl rfl rfl rfl ?_; refine Zf ?_; refine Zb ?_; refine Zj ?_; refine Zj ?_; refine Za (l := [0, 1]) rfl ?_; refine Zc rfl rfl rfl rfl ?_; refine Zby rfl rfl rfl rfl Tryd.underlying30 rfl rfl ?_; refine Zf ?_; refine Zb ?_; refine Zk (.cons (k := 9) rfl (.cons (k := 4) rfl (.cons (k := 0) rfl (.cons (k := 1) rfl .nil)))) ?_
  refine Zx rfl (fun hc1 => ?_) (fun hc1 => ?_)
  · first | replace hc1 := dT hc1 | replace hc1 := dF hc1 | replace hc1 := nT hc1 | replace hc1 := nF hc1 | skip
    first | (exfalso; omega) | (exfalso; simp [eqX] at hc1; done) | contradiction
  · first | replace hc1 := dT hc1 | replace hc1 := dF hc1 | replace hc1 := nT hc1 | replace hc1 := nF hc1 | skip
    first
    | (exfalso; omega)
    | (exfalso; simp [eqX] at hc1; done)
    | contradiction
    | skip
      refine Zu ?_; refine Zb ?_; refine Zk (.cons (k := 4) rfl (.cons (k := 0) rfl (.cons (k := 1) rfl .nil))) ?_; refine Zj ?_; refine Zj ?_; refine Za (l := [0, 1]) rfl ?_; refine Zc rfl rfl rfl rfl ?_; refine Zby rfl rfl rfl rfl Tryd.underlying20 rfl rfl ?_; refine Zf ?_; refine Zb ?_; refine Zk (.cons (k := 11) rfl (.cons (k := 4) rfl (.cons (k := 0) rfl (.cons (k := 1) rfl .nil)))) ?_
      refine Zx rfl (fun hc2 => ?_) (fun hc2 => ?_)
      · first | replace hc2 := dT hc2 | replace hc2 := dF hc2 | replace hc2 := nT hc2 | replace hc2 := nF hc2 | skip
        first | (exfalso; omega) | (exfalso; simp [eqX] at hc2; done) | contradiction
      · first | replace hc2 := dT hc2 | replace hc2 := dF hc2 | replace hc2 := nT hc2 | replace hc2 := nF hc2 | skip
        first
        | (exfalso; omega)
        | (exfalso; simp [eqX] at hc2; done)
        | contradiction
        | skip
          refine Zu ?_; refine Zb ?_; refine Zk (.cons (k := 4) rfl (.cons (k := 0) rfl (.cons (k := 1) rfl .nil))) ?_; refine Zj ?_; refine Za (l := [0, 1, 2, 3]) rfl ?_; refine Zc rfl rfl rfl rfl ?_
          refine X_extA (v := fun b => aggV [.one (.pointer (some ⟨5, 62, none⟩)), .one (.pointer (some ⟨b, 0, none⟩)), .one (.int .u64 150)]) (o := rowO [.one (.pointer (some ⟨bt, 0, none⟩))] 62) rfl rfl R.ext_ValueOf rfl (fun w => R.vo62 _ w) rfl ?_; intro bv
          refine Zbw rfl rfl F.zero75 (by constructor) rfl ?_; intro b3
          refine Zbv rfl rfl rfl rfl (by constructor) (by first | ((try simp only [cat, List.cons_append, List.nil_append, List.append_nil]); (repeat (first | exact Zap | refine Zbi ?_ | (refine Zaf ?_ ?_; rfl))); done) | exact StepL06V.flat _ | exact StepL06V.flat ⟨_, _, _, _⟩ | (simp [flat, cat, Segs.cells, Seg.cells, Value.oneCell']; done)) (by repeat first | exact Upd.head | apply Upd.tail | apply Upd.over) F.lay75 rfl rfl ?_; refine Zf ?_; refine Zb ?_; refine Zk (.cons (k := 5) rfl (.cons (k := 4) rfl (.cons (k := 0) rfl (.cons (k := 1) rfl .nil)))) ?_; refine Zj ?_; refine Za (l := [0, 1, 2]) rfl ?_
          first | refine Zan rfl rfl rfl (by repeat first | exact List.Mem.head _ | refine List.Mem.tail _ ?_ | refine List.mem_append_right _ ?_) F.lay75 rfl rfl rfl ?_ | refine Zs rfl rfl rfl (by first | assumption | exact SlM.mono (by assumption) (by assumption)) (by first | exact Zg (by omega) | exact List.getElem?_eq_getElem (by omega) | exact rfl | exact Zg (by first | (simp; done) | (simp; omega))) F.lay75 rfl rfl rfl ?_ | refine Zr rfl rfl rfl (by assumption) (by first | exact Zg (by omega) | exact List.getElem?_eq_getElem (by omega) | exact rfl | exact Zg (by first | (simp; done) | (simp; omega))) F.lay75 rfl rfl rfl ?_ | refine Zp rfl rfl rfl (by first | assumption | exact Mem.get_of (by assumption) (by repeat first | assumption | refine Mem.le.trans (by assumption) ?_)) F.lay75 rfl rfl rfl ?_ | refine Zo rfl rfl rfl (by assumption) (by repeat first | exact Rem.here _ | exact Rem.two | apply Rem.skip | apply Rem.over) (by first | exact Zg (by omega) | exact List.getElem?_eq_getElem (by omega) | exact rfl | exact Zg (by first | (simp; done) | (simp; omega))) F.lay75 rfl rfl rfl ?_
          refine X_ext rfl rfl R.ext_VType rfl (fun w hw => R.vty _ w) rfl ?_; refine Ze rfl rfl rfl rfl ?_; refine Zf ?_; refine Zb ?_; refine Zk (.cons (k := 6) rfl (.cons (k := 5) rfl (.cons (k := 4) rfl (.cons (k := 0) rfl (.cons (k := 1) rfl .nil))))) ?_; refine Zj ?_; refine Zj ?_; refine Za (l := [0, 1, 2, 3, 4, 5, 6]) rfl ?_; refine Zc rfl rfl rfl rfl ?_; refine X_invE rfl rfl rfl (R.m_Kind _) R.ext_Kind rfl (fun w hw => R.kind62 w) rfl ?_; refine Zao rfl rfl rfl rfl rfl rfl ?_; refine Zc rfl rfl rfl rfl ?_
          refine Zbz 20 rfl (fun hc4 => ?_) (fun hc4 => ?_)
          · first | replace hc4 := dT hc4 | replace hc4 := dF hc4 | replace hc4 := nT hc4 | replace hc4 := nF hc4 | skip
            first | (exfalso; omega) | (exfalso; simp [eqX] at hc4; done) | contradiction
          · first | replace hc4 := dT hc4 | replace hc4 := dF hc4 | replace hc4 := nT hc4 | replace hc4 := nF hc4 | skip
            first
            | (exfalso; omega)
            | (exfalso; simp [eqX] at hc4; done)
            | contradiction
            | skip
              first | refine Zan rfl rfl rfl (by repeat first | exact List.Mem.head _ | refine List.Mem.tail _ ?_ | refine List.mem_append_right _ ?_) F.lay75 rfl rfl rfl ?_ | refine Zs rfl rfl rfl (by first | assumption | exact SlM.mono (by assumption) (by assumption)) (by first | exact Zg (by omega) | exact List.getElem?_eq_getElem (by omega) | exact rfl | exact Zg (by first | (simp; done) | (simp; omega))) F.lay75 rfl rfl rfl ?_ | refine Zr rfl rfl rfl (by assumption) (by first | exact Zg (by omega) | exact List.getElem?_eq_getElem (by omega) | exact rfl | exact Zg (by first | (simp; done) | (simp; omega))) F.lay75 rfl rfl rfl ?_ | refine Zp rfl rfl rfl (by first | assumption | exact Mem.get_of (by assumption) (by repeat first | assumption | refine Mem.le.trans (by assumption) ?_)) F.lay75 rfl rfl rfl ?_ | refine Zo rfl rfl rfl (by assumption) (by repeat first | exact Rem.here _ | exact Rem.two | apply Rem.skip | apply Rem.over) (by first | exact Zg (by omega) | exact List.getElem?_eq_getElem (by omega) | exact rfl | exact Zg (by first | (simp; done) | (simp; omega))) F.lay75 rfl rfl rfl ?_
              refine X_ext rfl rfl R.ext_IsNil rfl (fun w hw => R.isNil _ ⟨bt, 0, none⟩ w (by rw [Go.Esp.cell_of_row (hw.own bv (rowO [.one (.pointer (some ⟨bt, 0, none⟩))] 62) (by repeat first | exact List.Mem.head _ | refine List.Mem.tail _ ?_ | refine List.mem_append_right _ ?_))]; rfl)) rfl ?_; refine Zau rfl rfl rfl rfl rfl ?_; refine Zf ?_; refine Zb ?_; refine Zk (.cons (k := 23) rfl (.cons (k := 6) rfl (.cons (k := 5) rfl (.cons (k := 4) rfl (.cons (k := 0) rfl (.cons (k := 1) rfl .nil)))))) ?_
              refine Zx rfl (fun hc5 => ?_) (fun hc5 => ?_)
              · first | replace hc5 := dT hc5 | replace hc5 := dF hc5 | replace hc5 := nT hc5 | replace hc5 := nF hc5 | skip
                first | (exfalso; omega) | (exfalso; simp [eqX] at hc5; done) | contradiction
              · first | replace hc5 := dT hc5 | replace hc5 := dF hc5 | replace hc5 := nT hc5 | replace hc5 := nF hc5 | skip
                first
                | (exfalso; omega)
                | (exfalso; simp [eqX] at hc5; done)
                | contradiction
                | skip
                  refine Zu ?_; refine Zb ?_; refine Zk (.cons (k := 6) rfl (.cons (k := 5) rfl (.cons (k := 4) rfl (.cons (k := 0) rfl (.cons (k := 1) rfl .nil))))) ?_; refine Zj ?_; refine Za (l := [0, 1, 2]) rfl ?_; refine Zc rfl rfl rfl rfl ?_; refine X_invE rfl rfl rfl (R.m_Elem _) R.ext_Elem rfl (fun w hw => R.elem w) rfl ?_; refine Ze rfl rfl rfl rfl ?_; refine Zf ?_; refine Zb ?_; refine Zk (.cons (k := 7) rfl (.cons (k := 5) rfl (.cons (k := 4) rfl (.cons (k := 0) rfl (.cons (k := 1) rfl .nil))))) ?_; refine Zj ?_; refine Zj ?_; refine Za (l := [0, 1, 2, 3, 4, 5, 6, 7, 8]) rfl ?_; refine Zc rfl rfl rfl rfl ?_; refine X_invE rfl rfl rfl (R.m_Kind _) R.ext_Kind rfl (fun w hw => R.kind60 w) rfl ?_; refine Zao rfl rfl rfl rfl rfl rfl ?_; refine Zc rfl rfl rfl rfl ?_
                  refine Zbz 30 rfl (fun hc6 => ?_) (fun hc6 => ?_)
                  · first | replace hc6 := dT hc6 | replace hc6 := dF hc6 | replace hc6 := nT hc6 | replace hc6 := nF hc6 | skip
                    first
                    | (exfalso; omega)
                    | (exfalso; simp [eqX] at hc6; done)
                    | contradiction
                    | skip
                      refine Zc rfl rfl rfl rfl ?_; refine X_load_glob rfl rfl hgl F.lay78 hgv rfl ?_; refine X_invE rfl rfl rfl (R.m_Implements _) R.ext_Implements rfl (fun w hw => R.imp w) rfl ?_; refine X_not rfl rfl rfl rfl ?_; refine Zau rfl rfl rfl rfl rfl ?_; refine Zf ?_; refine Zb ?_; refine Zk (.cons (k := 35) rfl (.cons (k := 7) rfl (.cons (k := 5) rfl (.cons (k := 4) rfl (.cons (k := 0) rfl (.cons (k := 1) rfl .nil)))))) ?_
                      refine Zx rfl (fun hc7 => ?_) (fun hc7 => ?_)
                      · first | replace hc7 := dT hc7 | replace hc7 := dF hc7 | replace hc7 := nT hc7 | replace hc7 := nF hc7 | skip
                        first | (exfalso; omega) | (exfalso; simp [eqX] at hc7; done) | contradiction
                      · first | replace hc7 := dT hc7 | replace hc7 := dF hc7 | replace hc7 := nT hc7 | replace hc7 := nF hc7 | skip
                        first
                        | (exfalso; omega)
                        | (exfalso; simp [eqX] at hc7; done)
                        | contradiction
                        | skip
                          refine Zu ?_; refine Zb ?_; refine Zk (.cons (k := 7) rfl (.cons (k := 5) rfl (.cons (k := 4) rfl (.cons (k := 0) rfl (.cons (k := 1) rfl .nil))))) ?_; refine Zj ?_; refine Zbl (l := [0, 1, 2, 3, 4, 5]) (Hin := [(bv, _), (bt, _)]) (by repeat first | exact Rem.here _ | exact Rem.two | apply Rem.skip | apply Rem.over) rfl ?_; refine Zc rfl rfl rfl rfl ?_; refine Zc rfl rfl rfl rfl ?_
                          first | refine Zan rfl rfl rfl (by repeat first | exact List.Mem.head _ | refine List.Mem.tail _ ?_ | refine List.mem_append_right _ ?_) F.lay75 rfl rfl rfl ?_ | refine Zs rfl rfl rfl (by first | assumption | exact SlM.mono (by assumption) (by assumption)) (by first | exact Zg (by omega) | exact List.getElem?_eq_getElem (by omega) | exact rfl | exact Zg (by first | (simp; done) | (simp; omega))) F.lay75 rfl rfl rfl ?_ | refine Zr rfl rfl rfl (by assumption) (by first | exact Zg (by omega) | exact List.getElem?_eq_getElem (by omega) | exact rfl | exact Zg (by first | (simp; done) | (simp; omega))) F.lay75 rfl rfl rfl ?_ | refine Zp rfl rfl rfl (by first | assumption | exact Mem.get_of (by assumption) (by repeat first | assumption | refine Mem.le.trans (by assumption) ?_)) F.lay75 rfl rfl rfl ?_ | refine Zo rfl rfl rfl (by assumption) (by repeat first | exact Rem.here _ | exact Rem.two | apply Rem.skip | apply Rem.over) (by first | exact Zg (by omega) | exact List.getElem?_eq_getElem (by omega) | exact rfl | exact Zg (by first | (simp; done) | (simp; omega))) F.lay75 rfl rfl rfl ?_
                          refine Zc rfl rfl rfl rfl ?_; refine Zcd rfl rfl F.ok34 rfl (as_ok M bt bv z e _ he) (by repeat first | exact Rem.here _ | exact Rem.two | apply Rem.skip | apply Rem.over) (fun _ _ _ hm hw => (hw.lower (by first | exact hm | exact Mem.le.trans (by assumption) hm | exact Mem.le.trans (by first | exact Mem.le.refl _ | assumption | (repeat first | assumption | refine Mem.le.trans (by assumption) ?_)) hm)).cnt (by intro zz; first | exact Nat.le_refl _ | (simp only [Zh, Zd, Zi, cat, List.append_eq, List.append_assoc, List.cons_append, List.nil_append, List.append_nil]; omega) | (simp only [Zh, Zd, Zi, cat, List.append_eq, List.append_assoc, List.cons_append, List.nil_append, List.append_nil, StepL06V.segs]; omega))) (Zbh rfl) ?_
                          rintro _ M2 Hb2 _ ⟨hM2, rfl, hH2⟩; subst M2; subst hH2
                          refine Ze rfl rfl rfl rfl ?_; refine Zf ?_; refine Zb ?_; refine Zk (.cons (k := 4) rfl .nil) ?_; refine Zag ?_
                          refine Zab (.inr rfl) (.tmp rfl .nil) (fun w hw => ?_)
                          exact ⟨_, M, [(bt, rowO [.one (.int .i64 (e.codes.headD 0))] 60)], rfl, Mem.le.refl M, hw.cnt (by intro zz; first | exact Nat.le_refl _ | (simp only [Zh, Zd, Zi, cat, List.append_eq, List.append_assoc, List.cons_append, List.nil_append, List.append_nil]; omega) | (simp only [Zh, Zd, Zi, cat, List.append_eq, List.append_assoc, List.cons_append, List.nil_append, List.append_nil, StepL06V.segs]; omega)), rfl, rfl, rfl⟩
                  · first | replace hc6 := dT hc6 | replace hc6 := dF hc6 | replace hc6 := nT hc6 | replace hc6 := nF hc6 | skip
                    first | (exfalso; omega) | (exfalso; simp [eqX] at hc6; done) | contradiction
theorem bCode_ok (M : Mem) (e : Err) (v : Value) (he : ErrV M e v) (hE : EG M) : Fs Tryd.prog 9 [v] M (fun r => r = .int .i64 (e.codes.headD 0)) := by
  obtain ⟨t1, u1, rfl⟩ := he.iface
  refine Zbb Tryd.func9 rfl Tryd.ntmps9 rfl ?_; intro H
  refine Zj ?_; refine Za (l := [0]) rfl ?_; refine Ze rfl rfl rfl rfl ?_; refine Zf ?_; refine Zb ?_; refine Zj ?_; refine Za (l := [0]) rfl ?_
  refine Zbw rfl rfl F.zero60 (by constructor) rfl ?_; intro b1
  refine Zf ?_; refine Zb ?_; refine Zj ?_; refine Zaa ?_; refine Zj ?_; refine Za (l := [0, 1, 2]) rfl ?_; refine Zc rfl rfl rfl rfl ?_; refine Zby rfl rfl rfl rfl Tryd.underlying30 rfl rfl ?_; refine Ze rfl rfl rfl rfl ?_; refine Zf ?_; refine Zb ?_; refine Zk (.cons (k := 4) rfl (.cons (k := 3) rfl (.cons (k := 2) rfl (.cons (k := 0) rfl .nil)))) ?_
  refine Zx rfl (fun hc2 => ?_) (fun hc2 => ?_)
  · first | replace hc2 := dT hc2 | replace hc2 := dF hc2 | replace hc2 := nT hc2 | replace hc2 := nF hc2 | skip
    first | (exfalso; omega) | (exfalso; simp [eqX] at hc2; done) | contradiction
  · first | replace hc2 := dT hc2 | replace hc2 := dF hc2 | replace hc2 := nT hc2 | replace hc2 := nF hc2 | skip
    first
    | (exfalso; omega)
    | (exfalso; simp [eqX] at hc2; done)
    | contradiction
    | skip
      refine Zj ?_; refine Zbl (l := [0, 1, 2, 3]) (Hin := [(b1, _)]) (by repeat first | exact Rem.here _ | exact Rem.two | apply Rem.skip | apply Rem.over) rfl ?_; refine Zc rfl rfl rfl rfl ?_; refine X_iface rfl rfl rfl Tryd.underlying62 rfl rfl ?_; refine Zcd rfl rfl F.ok28 rfl (eAs_ok M b1 0 e _ he hE) (by repeat first | exact Rem.here _ | exact Rem.two | apply Rem.skip | apply Rem.over) (fun _ _ _ hm hw => (hw.lower (by first | exact hm | exact Mem.le.trans (by assumption) hm | exact Mem.le.trans (by first | exact Mem.le.refl _ | assumption | (repeat first | assumption | refine Mem.le.trans (by assumption) ?_)) hm)).cnt (by intro zz; first | exact Nat.le_refl _ | (simp only [Zh, Zd, Zi, cat, List.append_eq, List.append_assoc, List.cons_append, List.nil_append, List.append_nil]; omega) | (simp only [Zh, Zd, Zi, cat, List.append_eq, List.append_assoc, List.cons_append, List.nil_append, List.append_nil, StepL06V.segs]; omega))) (Zbh rfl) ?_
      rintro _ M2 Hb2 _ ⟨hM2, rfl, hH2⟩; subst M2; subst hH2
      refine Ze rfl rfl rfl rfl ?_; refine Zf ?_; refine Zb ?_; refine Zk (.cons (k := 7) rfl (.cons (k := 3) rfl (.cons (k := 2) rfl .nil))) ?_
      refine Zx rfl (fun hc3 => ?_) (fun hc3 => ?_)
      · first | replace hc3 := dT hc3 | replace hc3 := dF hc3 | replace hc3 := nT hc3 | replace hc3 := nF hc3 | skip
        first
        | (exfalso; omega)
        | (exfalso; simp [eqX] at hc3; done)
        | contradiction
        | skip
          refine Zj ?_; refine Za (l := [0, 1, 2]) rfl ?_
          first | refine Zad rfl rfl rfl F.foff60_0 rfl ?_ | refine Zv rfl rfl rfl (by first | exact ⟨_, _, rfl⟩ | assumption | exact SlM.plain (by assumption) (by first | (simp; done) | (simp; omega)) | exact RdS.plain (by assumption) (by first | (simp; done) | (simp; omega)) | exact OSl.plain (by assumption) (by first | (simp; done) | (simp; omega))) F.foff60_0 rfl ?_
          first | refine Zan rfl rfl rfl (by repeat first | exact List.Mem.head _ | refine List.Mem.tail _ ?_ | refine List.mem_append_right _ ?_) F.lay23 rfl rfl rfl ?_ | refine Zs rfl rfl rfl (by first | assumption | exact SlM.mono (by assumption) (by assumption)) (by first | exact Zg (by omega) | exact List.getElem?_eq_getElem (by omega) | exact rfl | exact Zg (by first | (simp; done) | (simp; omega))) F.lay23 rfl rfl rfl ?_ | refine Zr rfl rfl rfl (by assumption) (by first | exact Zg (by omega) | exact List.getElem?_eq_getElem (by omega) | exact rfl | exact Zg (by first | (simp; done) | (simp; omega))) F.lay23 rfl rfl rfl ?_ | refine Zp rfl rfl rfl (by first | assumption | exact Mem.get_of (by assumption) (by repeat first | assumption | refine Mem.le.trans (by assumption) ?_)) F.lay23 rfl rfl rfl ?_ | refine Zo rfl rfl rfl (by assumption) (by repeat first | exact Rem.here _ | exact Rem.two | apply Rem.skip | apply Rem.over) (by first | exact Zg (by omega) | exact List.getElem?_eq_getElem (by omega) | exact rfl | exact Zg (by first | (simp; done) | (simp; omega))) F.lay23 rfl rfl rfl ?_ | refine Zq rfl rfl rfl (by repeat first | exact List.Mem.head _ | refine List.Mem.tail _ ?_ | refine List.mem_append_right _ ?_) F.lay23 (by first | exact Zbj (by first | omega | decide) | exact Zax (by first | omega | decide)) rfl ?_
          refine Ze rfl rfl rfl rfl ?_; refine Zf ?_; refine Zb ?_; refine Zk (.cons (k := 2) rfl .nil) ?_; refine Zag ?_; refine Zaw ?_; refine Zam ?_
          refine Zab (.inr rfl) (.tmp rfl .nil) (fun w hw => ?_)
          exact ⟨_, rfl, hw.cnt (by intro zz; first | exact Nat.le_refl _ | (simp only [Zh, Zd, Zi, cat, List.append_eq, List.append_assoc, List.cons_append, List.nil_append, List.append_nil]; omega) | (simp only [Zh, Zd, Zi, cat, List.append_eq, List.append_assoc, List.cons_append, List.nil_append, List.append_nil, StepL06V.segs]; omega)), rfl⟩
      · first | replace hc3 := dT hc3 | replace hc3 := dF hc3 | replace hc3 := nT hc3 | replace hc3 := nF hc3 | skip
        first | (exfalso; omega) | (exfalso; simp [eqX] at hc3; done) | contradiction
end Go.Proofs.YtbeahcfghjiogaaDoor
namespace Go.Esp
theorem fh_thaw {α : Type} {T sz k cp : Nat} {f : α → Segs} {l : List α} {ad : Option Addr} {hs Hin : Hp} {P : Program} {g : FuncId} {vs : List Value} {M : Mem} {R : Mem → Value → Hp → Prop} (ho : OSl T sz (.slice ad k cp) hs (l.map f)) (h : ∀ M', M.le M' → SlK M' f sz ⟨ad, cp, l⟩ → Fh P g vs M' Hin R) : Fh P g vs M (Hin ++ hs) R := fun H w hw => by
  obtain ⟨M', h1, h2, h3⟩ := ho.frz (H := Hin ++ H) (hw.cnt (by intro zz; simp only [Zh]; omega))
  exact (h M' h1 h3 H w h2).mono fun e w' ⟨v, M2, Ho, he, hm, hs, hr⟩ => ⟨v, M2, Ho, he, h1.trans hm, hs, hr⟩
end Go.Esp
namespace Go.Proofs.YtbeahcfghjiogaaDoor
open Go.Esp
theorem F.bld71 : Bld Tryd.prog 71 [[.one (.slice none 0 0)]] := ⟨by kernel_rfl, by kernel_rfl⟩
theorem F.ok11 : okFn Tryd.prog 11 = true := by kernel_rfl
theorem F.ok23 : okFn Tryd.prog 23 = true := by kernel_rfl
theorem F.ok30 : okFn Tryd.prog 30 = true := by kernel_rfl
theorem F.zero30 : zeroOf Tryd.prog 30 = some (.nilIface) := by kernel_rfl
theorem fnOfFs {P : Program} {f : FuncId} {vs : List Value} {M : Mem} {R : Value → Prop} (h : Fs P f vs M R) : Esp.Fn P f vs M (fun _ v => R v) := fun H w hw =>
  (h H w hw).mono fun _ _ ⟨v, he, hs, hr⟩ => ⟨v, M, he, Mem.le.refl M, hs, hr⟩
theorem bWrap_o (M : Mem) (op : ByteArray) (o : Option Err) (v : Value) (ho : OE M o v) : Esp.Fn Tryd.prog 21 [.string op, v] M (fun M' u => OE M' (wrapO op o) u) := by
  cases o with
  | none =>
    obtain rfl : v = .nilIface := ho
    intro H w hw
    refine (bWrap_nil M op H w hw).mono ?_
    rintro e w' ⟨v, he, hs, rfl⟩
    exact ⟨_, M, he, Mem.le.refl M, hs, rfl⟩
  | some e => exact bWrap_ok M op e v ho
theorem somes_len (l : List (Option Err)) : (somes l).length ≤ l.length := by
  induction l with
  | nil => exact Nat.le_refl _
  | cons o r ih => cases o <;> simp only [somes, List.length_cons] <;> omega
theorem bJoin_ok (M : Mem) (s : Sl Value) (es : List (Option Err)) (hs : SlK M (fun u => ([.one u] : Segs)) 1 s) (he : OEL M es s.l) (hz : s.l.length ≤ 1000) : Esp.Fn Tryd.prog 22 [s.val] M (fun M' v => OE M' (joinO es) v) := by
  refine fn_enter Tryd.func22 rfl Tryd.ntmps22 rfl ?_; intro H
  obtain ⟨s_a, s_c, s_l⟩ := s
  have s_s : SlM M s_a (s_l.map (fun u => ([.one u] : Segs))) 1 := hs.h1
  have n_s : (s_l.map (fun u => ([.one u] : Segs))).length = s_l.length := List.length_map ..
  have m_s : s_l.length ≤ 9223372036854775807 := hs.h2
  have hle : s_l.length = es.length := he.len
  replace hz : s_l.length ≤ 1000 := hz
  refine Zj ?_; refine Za (l := [0]) rfl ?_; refine Ze rfl rfl rfl rfl ?_; refine Zf ?_; refine Zb ?_; refine Zj ?_; refine Za (l := [0]) rfl ?_; refine Ze rfl rfl rfl rfl ?_; refine Zf ?_; refine Zb ?_; refine Zj ?_; refine Zj ?_; refine Za (l := [0, 1, 2]) rfl ?_; refine Zc rfl rfl rfl rfl ?_; refine Zas rfl rfl rfl rfl F.elem25 rfl ?_; refine Zc rfl rfl rfl rfl ?_; refine Zf ?_; refine Zb ?_; refine Zk (.cons (k := 8) rfl (.cons (k := 7) rfl (.cons (k := 6) rfl (.cons (k := 3) rfl (.cons (k := 2) rfl .nil))))) ?_; refine Zaa ?_; refine Zk (.cons (k := 8) rfl (.cons (k := 3) rfl (.cons (k := 7) rfl (.cons (k := 6) rfl (.cons (k := 2) rfl .nil))))) ?_; refine C_loopO (Hin := []) (.succ (.succ .zero)) (by repeat first | exact Rem.here _ | exact Rem.two | apply Rem.skip | apply Rem.over) (fun (k : Nat) M1 h1 z => ∃ v1 us, M1 = M ∧ z = [(8, .int .i64 (k : Int)), (3, v1)] ∧ k ≤ s_l.length ∧ OSl 30 1 v1 h1 (us.map (fun u => ([.one u] : Segs))) ∧ ErrL M (somes (es.take k)) us) (fun k => s_l.length - k) (0) (⟨_, [], rfl, rfl, by omega, OSl.nil, rfl⟩) ?_
  rintro k M1 h1 z hm1 ⟨v1, us, hM1, rfl, hk, ho, hu⟩
  obtain rfl := hM1.symm
  obtain ⟨ad1, cp1, rfl⟩ := ho.valL
  have hlu := hu.len
  have hsl := somes_len (es.take k)
  have htk : (es.take k).length ≤ k := by rw [List.length_take]; omega
  have h3 : k = s_l.length ∨ ∃ hk2 : k < s_l.length, ∃ hke : k < es.length, (es[k] = none ∧ s_l[k] = .nilIface ∧ somes (es.take (k + 1)) = somes (es.take k)) ∨ (∃ e1 t1 u1, es[k] = some e1 ∧ s_l[k] = .iface t1 u1 ∧ ErrV M e1 (.iface t1 u1) ∧ somes (es.take (k + 1)) = somes (es.take k) ++ [e1]) := by
    rcases Nat.lt_or_ge k s_l.length with hk2 | hk2
    · have hke : k < es.length := by omega
      refine .inr ⟨hk2, hke, ?_⟩
      have hw9 := he.at_ k hke hk2
      have hst := somes_take hke
      cases hek : es[k] with
      | none => rw [hek] at hw9 hst; exact .inl ⟨rfl, hw9, by rw [hst]; simp [somes]⟩
      | some e1 =>
        rw [hek] at hw9 hst
        obtain ⟨t1, u1, h9⟩ := ErrV.iface hw9
        exact .inr ⟨e1, t1, u1, rfl, h9, h9 ▸ hw9, by rw [hst]; rfl⟩
    · exact .inl (by omega)
  rcases h3 with hkk | ⟨hk2, hke, ⟨hek, hwk, hst⟩ | ⟨e1, t1, u1, hek, hwk, hev, hst⟩⟩
  · skip
    refine Zj ?_; refine Za (l := [0]) rfl ?_; refine Zao rfl rfl rfl rfl rfl rfl ?_; refine Zf ?_; refine Zb ?_; refine Zj ?_
    refine Zx rfl (fun hc1 => ?_) (fun hc1 => ?_)
    · first | replace hc1 := dT hc1 | replace hc1 := dF hc1 | replace hc1 := nT hc1 | replace hc1 := nF hc1 | skip
      first
      | (exfalso; omega)
      | (exfalso; simp [eqX] at hc1; done)
      | contradiction
      | skip
        refine Zu ?_; refine Zb ?_; refine Zj ?_; refine Zaa ?_; refine Zj ?_; refine Za (l := [0, 1, 2]) rfl ?_; refine Zn rfl rfl rfl rfl F.elem25 (by first | rfl | exact (Int.toNat_of_nonneg (by omega)).symm) (by first | omega | (simp; done) | (simp; omega)) (by first | exact ⟨_, _, rfl⟩ | assumption | exact SlM.plain (by assumption) (by first | (simp; done) | (simp; omega)) | exact RdS.plain (by assumption) (by first | (simp; done) | (simp; omega)) | exact OSl.plain (by assumption) (by first | (simp; done) | (simp; omega))) rfl ?_
        first | refine Zan rfl rfl rfl (by repeat first | exact List.Mem.head _ | refine List.Mem.tail _ ?_ | refine List.mem_append_right _ ?_) F.lay30 rfl rfl rfl ?_ | refine Zs rfl rfl rfl (by first | assumption | exact SlM.mono (by assumption) (by assumption)) (by first | exact Zg (by omega) | exact List.getElem?_eq_getElem (by omega) | exact rfl | exact Zg (by first | (simp; done) | (simp; omega))) F.lay30 rfl rfl rfl ?_ | refine Zr rfl rfl rfl (by assumption) (by first | exact Zg (by omega) | exact List.getElem?_eq_getElem (by omega) | exact rfl | exact Zg (by first | (simp; done) | (simp; omega))) F.lay30 rfl rfl rfl ?_ | refine Zp rfl rfl rfl (by first | assumption | exact Mem.get_of (by assumption) (by repeat first | assumption | refine Mem.le.trans (by assumption) ?_)) F.lay30 rfl rfl rfl ?_ | refine Zo rfl rfl rfl (by assumption) (by repeat first | exact Rem.here _ | exact Rem.two | apply Rem.skip | apply Rem.over) (by first | exact Zg (by omega) | exact List.getElem?_eq_getElem (by omega) | exact rfl | exact Zg (by first | (simp; done) | (simp; omega))) F.lay30 rfl rfl rfl ?_ | refine Zq rfl rfl rfl (by repeat first | exact List.Mem.head _ | refine List.Mem.tail _ ?_ | refine List.mem_append_right _ ?_) F.lay30 (by first | exact Zbj (by first | omega | decide) | exact Zax (by first | omega | decide)) rfl ?_
        skip
        refine Ze rfl rfl rfl rfl ?_; refine Zf ?_; refine Zb ?_; refine Zj ?_; refine Za (l := [0, 1]) rfl ?_; refine Zc rfl rfl rfl rfl ?_; refine Zby rfl rfl rfl rfl Tryd.underlying30 rfl rfl ?_; refine Zf ?_; refine Zb ?_; refine Zbe rfl ?_; refine Zu ?_; refine Zbk ?_; refine Zb ?_; refine Za (l := [0, 1]) rfl ?_; refine Zai rfl rfl rfl rfl rfl (by first | exact Zt (by decide) (by omega) | exact Zz (by decide) (by omega) | exact Zae (by decide) (by omega) | exact Zm (by decide) (by omega) | exact Zah _ | exact Zay _ | exact Zak _ | exact rfl) rfl ?_; refine Zc rfl rfl rfl rfl ?_; refine Zf ?_; refine Zbg (a' := [(8, _), (3, _)]) (k + 1) (h1) (.cons (k := 8) rfl (.cons (k := 3) rfl (.cons (k := 7) rfl (.cons (k := 6) rfl (.cons (k := 2) rfl (.nil)))))) (by first | exact Mem.le.refl _ | assumption | (repeat first | assumption | refine Mem.le.trans (by assumption) ?_)) (fun w hw => by first | exact hw | exact hw.cnt (by intro zz; first | exact Nat.le_refl _ | (simp only [Zh, Zd, Zi, cat, List.append_eq, List.append_assoc, List.cons_append, List.nil_append, List.append_nil]; omega) | (simp only [Zh, Zd, Zi, cat, List.append_eq, List.append_assoc, List.cons_append, List.nil_append, List.append_nil, StepL06V.segs]; omega))) ?_ ?_
        · exfalso; omega
        · omega
    · first | replace hc1 := dT hc1 | replace hc1 := dF hc1 | replace hc1 := nT hc1 | replace hc1 := nF hc1 | skip
      first
      | (exfalso; omega)
      | (exfalso; simp [eqX] at hc1; done)
      | contradiction
      | skip
        refine Zbt ?_; refine Zbd ?_; refine Zbd ?_; refine Zca ?_; refine Zb ?_; refine Zk (.cons (k := 3) rfl (.cons (k := 2) rfl .nil)) ?_; refine Zj ?_; refine Zj ?_; refine Za (l := [0, 1, 2]) rfl ?_; refine Zc rfl rfl rfl rfl ?_; refine Zas rfl rfl rfl rfl F.elem25 rfl ?_; refine Zao rfl rfl rfl rfl rfl rfl ?_; refine Zf ?_; refine Zb ?_; refine Zk (.cons (k := 21) rfl (.cons (k := 3) rfl (.cons (k := 2) rfl .nil))) ?_
        refine Zx rfl (fun hc2 => ?_) (fun hc2 => ?_)
        · first | replace hc2 := dT hc2 | replace hc2 := dF hc2 | replace hc2 := nT hc2 | replace hc2 := nF hc2 | skip
          first
          | (exfalso; omega)
          | (exfalso; simp [eqX] at hc2; done)
          | contradiction
          | skip
            refine Zj ?_; refine Za (l := [0]) rfl ?_; refine Ze rfl rfl rfl rfl ?_; refine Zf ?_; refine Zb ?_; refine Zk (.cons (k := 2) rfl (.cons (k := 3) rfl .nil)) ?_; refine Zag ?_; refine Zam ?_
            refine Zab (.inr rfl) (.tmp rfl .nil) (fun w hw => ?_)
            refine ⟨_, M, rfl, Mem.le.refl M, hw.cnt (by intro zz; first | exact Nat.le_refl _ | (simp only [Zh, Zd, Zi, cat, List.append_eq, List.append_assoc, List.cons_append, List.nil_append, List.append_nil]; omega) | (simp only [Zh, Zd, Zi, cat, List.append_eq, List.append_assoc, List.cons_append, List.nil_append, List.append_nil, StepL06V.segs]; omega)), ?_⟩
            obtain rfl : k = s_l.length := by omega
            have h9 : somes es = [] := by
              have h8 : us = [] := List.length_eq_zero_iff.1 (by omega)
              subst h8
              rw [List.take_of_length_le (by omega)] at hlu
              exact List.length_eq_zero_iff.1 hlu.symm
            show OE M (joinE (somes es)) _
            rw [h9]; rfl
        · first | replace hc2 := dT hc2 | replace hc2 := dF hc2 | replace hc2 := nT hc2 | replace hc2 := nF hc2 | skip
          first
          | (exfalso; omega)
          | (exfalso; simp [eqX] at hc2; done)
          | contradiction
          | skip
            refine Zu ?_; refine Zb ?_; refine Zk (.cons (k := 3) rfl (.cons (k := 2) rfl .nil)) ?_; refine Zj ?_; refine Za (l := [0, 1, 2, 3, 4]) rfl ?_; refine Zc rfl rfl rfl rfl ?_; refine Zbn rfl rfl F.bld71 (.cons rfl (by constructor) .nil) rfl rfl ?_
            refine X_box rfl rfl rfl (by constructor) rfl ?_; intro b3
            refine X_iface rfl rfl rfl Tryd.underlying69 rfl rfl ?_; refine Ze rfl rfl rfl rfl ?_; refine Zf ?_; refine Zb ?_; refine Zk (.cons (k := 2) rfl .nil) ?_; refine Zag ?_
            refine Zab (.inr rfl) (.tmp rfl .nil) (fun w hw => ?_)
            have hw2 : St M (h1 ++ ((b3, rowO [.one (.slice ad1 us.length cp1)] 71) :: H)) w := hw.cnt (by intro zz; first | exact Nat.le_refl _ | (simp only [Zh, Zd, Zi, cat, List.append_eq, List.append_assoc, List.cons_append, List.nil_append, List.append_nil]; omega) | (simp only [Zh, Zd, Zi, cat, List.append_eq, List.append_assoc, List.cons_append, List.nil_append, List.append_nil, StepL06V.segs]; omega))
            obtain ⟨M2, g1, g2, g3⟩ := ho.frz hw2
            obtain ⟨g4, g5⟩ := g2.freeze
            refine ⟨_, _, rfl, g1.trans g4, g5, ?_⟩
            obtain rfl : k = s_l.length := by omega
            rw [List.take_of_length_le (by omega)] at hu
            have h8 : us.length ≠ 0 := by omega
            have hlu9 := hu.len
            show OE _ (joinE (somes es)) _
            cases hse : somes es with
            | nil => rw [hse] at hlu9; exact (h8 hlu9).elim
            | cons e9 r9 =>
              rw [hse] at hu
              exact ⟨by simp, b3, us, ad1, cp1, rfl, Mem.add_self _ _ _, g3.h1.mono g4, g3.h2, ErrL.mono (g1.trans g4) _ hu⟩
  · skip
    refine Zj ?_; refine Za (l := [0]) rfl ?_; refine Zao rfl rfl rfl rfl rfl rfl ?_; refine Zf ?_; refine Zb ?_; refine Zj ?_
    refine Zx rfl (fun hc4 => ?_) (fun hc4 => ?_)
    · first | replace hc4 := dT hc4 | replace hc4 := dF hc4 | replace hc4 := nT hc4 | replace hc4 := nF hc4 | skip
      first
      | (exfalso; omega)
      | (exfalso; simp [eqX] at hc4; done)
      | contradiction
      | skip
        refine Zu ?_; refine Zb ?_; refine Zj ?_; refine Zaa ?_; refine Zj ?_; refine Za (l := [0, 1, 2]) rfl ?_; refine Zn rfl rfl rfl rfl F.elem25 (by first | rfl | exact (Int.toNat_of_nonneg (by omega)).symm) (by first | omega | (simp; done) | (simp; omega)) (by first | exact ⟨_, _, rfl⟩ | assumption | exact SlM.plain (by assumption) (by first | (simp; done) | (simp; omega)) | exact RdS.plain (by assumption) (by first | (simp; done) | (simp; omega)) | exact OSl.plain (by assumption) (by first | (simp; done) | (simp; omega))) rfl ?_
        first | refine Zan rfl rfl rfl (by repeat first | exact List.Mem.head _ | refine List.Mem.tail _ ?_ | refine List.mem_append_right _ ?_) F.lay30 rfl rfl rfl ?_ | refine Zs rfl rfl rfl (by first | assumption | exact SlM.mono (by assumption) (by assumption)) (by first | exact Zg (by omega) | exact List.getElem?_eq_getElem (by omega) | exact rfl | exact Zg (by first | (simp; done) | (simp; omega))) F.lay30 rfl rfl rfl ?_ | refine Zr rfl rfl rfl (by assumption) (by first | exact Zg (by omega) | exact List.getElem?_eq_getElem (by omega) | exact rfl | exact Zg (by first | (simp; done) | (simp; omega))) F.lay30 rfl rfl rfl ?_ | refine Zp rfl rfl rfl (by first | assumption | exact Mem.get_of (by assumption) (by repeat first | assumption | refine Mem.le.trans (by assumption) ?_)) F.lay30 rfl rfl rfl ?_ | refine Zo rfl rfl rfl (by assumption) (by repeat first | exact Rem.here _ | exact Rem.two | apply Rem.skip | apply Rem.over) (by first | exact Zg (by omega) | exact List.getElem?_eq_getElem (by omega) | exact rfl | exact Zg (by first | (simp; done) | (simp; omega))) F.lay30 rfl rfl rfl ?_ | refine Zq rfl rfl rfl (by repeat first | exact List.Mem.head _ | refine List.Mem.tail _ ?_ | refine List.mem_append_right _ ?_) F.lay30 (by first | exact Zbj (by first | omega | decide) | exact Zax (by first | omega | decide)) rfl ?_
        refine Zbf 11 rfl hwk ?_; refine Ze rfl rfl rfl rfl ?_; refine Zf ?_; refine Zb ?_; refine Zj ?_; refine Za (l := [0, 1]) rfl ?_; refine Zc rfl rfl rfl rfl ?_; refine Zby rfl rfl rfl rfl Tryd.underlying30 rfl rfl ?_; refine Zf ?_; refine Zb ?_; refine Zbe rfl ?_; refine Zu ?_; refine Zbk ?_; refine Zb ?_; refine Za (l := [0, 1]) rfl ?_; refine Zai rfl rfl rfl rfl rfl (by first | exact Zt (by decide) (by omega) | exact Zz (by decide) (by omega) | exact Zae (by decide) (by omega) | exact Zm (by decide) (by omega) | exact Zah _ | exact Zay _ | exact Zak _ | exact rfl) rfl ?_; refine Zc rfl rfl rfl rfl ?_; refine Zf ?_; refine Zbg (a' := [(8, _), (3, _)]) (k + 1) (h1) (.cons (k := 8) rfl (.cons (k := 3) rfl (.cons (k := 7) rfl (.cons (k := 6) rfl (.cons (k := 2) rfl (.nil)))))) (by first | exact Mem.le.refl _ | assumption | (repeat first | assumption | refine Mem.le.trans (by assumption) ?_)) (fun w hw => by first | exact hw | exact hw.cnt (by intro zz; first | exact Nat.le_refl _ | (simp only [Zh, Zd, Zi, cat, List.append_eq, List.append_assoc, List.cons_append, List.nil_append, List.append_nil]; omega) | (simp only [Zh, Zd, Zi, cat, List.append_eq, List.append_assoc, List.cons_append, List.nil_append, List.append_nil, StepL06V.segs]; omega))) ?_ ?_
        · refine ⟨_, _, rfl, rfl, by omega, ho, ?_⟩
          rw [hst]; exact hu
        · omega
    · first | replace hc4 := dT hc4 | replace hc4 := dF hc4 | replace hc4 := nT hc4 | replace hc4 := nF hc4 | skip
      first
      | (exfalso; omega)
      | (exfalso; simp [eqX] at hc4; done)
      | contradiction
      | skip
        refine Zbt ?_; refine Zbd ?_; refine Zbd ?_; refine Zca ?_; refine Zb ?_; refine Zk (.cons (k := 3) rfl (.cons (k := 2) rfl .nil)) ?_; refine Zj ?_; refine Zj ?_; refine Za (l := [0, 1, 2]) rfl ?_; refine Zc rfl rfl rfl rfl ?_; refine Zas rfl rfl rfl rfl F.elem25 rfl ?_; refine Zao rfl rfl rfl rfl rfl rfl ?_; refine Zf ?_; refine Zb ?_; refine Zk (.cons (k := 21) rfl (.cons (k := 3) rfl (.cons (k := 2) rfl .nil))) ?_
        refine Zx rfl (fun hc5 => ?_) (fun hc5 => ?_)
        · first | replace hc5 := dT hc5 | replace hc5 := dF hc5 | replace hc5 := nT hc5 | replace hc5 := nF hc5 | skip
          first
          | (exfalso; omega)
          | (exfalso; simp [eqX] at hc5; done)
          | contradiction
          | skip
            refine Zj ?_; refine Za (l := [0]) rfl ?_; refine Ze rfl rfl rfl rfl ?_; refine Zf ?_; refine Zb ?_; refine Zk (.cons (k := 2) rfl (.cons (k := 3) rfl .nil)) ?_; refine Zag ?_; refine Zam ?_
            refine Zab (.inr rfl) (.tmp rfl .nil) (fun w hw => ?_)
            refine ⟨_, M, rfl, Mem.le.refl M, hw.cnt (by intro zz; first | exact Nat.le_refl _ | (simp only [Zh, Zd, Zi, cat, List.append_eq, List.append_assoc, List.cons_append, List.nil_append, List.append_nil]; omega) | (simp only [Zh, Zd, Zi, cat, List.append_eq, List.append_assoc, List.cons_append, List.nil_append, List.append_nil, StepL06V.segs]; omega)), ?_⟩
            obtain rfl : k = s_l.length := by omega
            have h9 : somes es = [] := by
              have h8 : us = [] := List.length_eq_zero_iff.1 (by omega)
              subst h8
              rw [List.take_of_length_le (by omega)] at hlu
              exact List.length_eq_zero_iff.1 hlu.symm
            show OE M (joinE (somes es)) _
            rw [h9]; rfl
        · first | replace hc5 := dT hc5 | replace hc5 := dF hc5 | replace hc5 := nT hc5 | replace hc5 := nF hc5 | skip
          first
          | (exfalso; omega)
          | (exfalso; simp [eqX] at hc5; done)
          | contradiction
          | skip
            refine Zu ?_; refine Zb ?_; refine Zk (.cons (k := 3) rfl (.cons (k := 2) rfl .nil)) ?_; refine Zj ?_; refine Za (l := [0, 1, 2, 3, 4]) rfl ?_; refine Zc rfl rfl rfl rfl ?_; refine Zbn rfl rfl F.bld71 (.cons rfl (by constructor) .nil) rfl rfl ?_
            refine X_box rfl rfl rfl (by constructor) rfl ?_; intro b6
            refine X_iface rfl rfl rfl Tryd.underlying69 rfl rfl ?_; refine Ze rfl rfl rfl rfl ?_; refine Zf ?_; refine Zb ?_; refine Zk (.cons (k := 2) rfl .nil) ?_; refine Zag ?_
            refine Zab (.inr rfl) (.tmp rfl .nil) (fun w hw => ?_)
            have hw2 : St M (h1 ++ ((b6, rowO [.one (.slice ad1 us.length cp1)] 71) :: H)) w := hw.cnt (by intro zz; first | exact Nat.le_refl _ | (simp only [Zh, Zd, Zi, cat, List.append_eq, List.append_assoc, List.cons_append, List.nil_append, List.append_nil]; omega) | (simp only [Zh, Zd, Zi, cat, List.append_eq, List.append_assoc, List.cons_append, List.nil_append, List.append_nil, StepL06V.segs]; omega))
            obtain ⟨M2, g1, g2, g3⟩ := ho.frz hw2
            obtain ⟨g4, g5⟩ := g2.freeze
            refine ⟨_, _, rfl, g1.trans g4, g5, ?_⟩
            obtain rfl : k = s_l.length := by omega
            rw [List.take_of_length_le (by omega)] at hu
            have h8 : us.length ≠ 0 := by omega
            have hlu9 := hu.len
            show OE _ (joinE (somes es)) _
            cases hse : somes es with
            | nil => rw [hse] at hlu9; exact (h8 hlu9).elim
            | cons e9 r9 =>
              rw [hse] at hu
              exact ⟨by simp, b6, us, ad1, cp1, rfl, Mem.add_self _ _ _, g3.h1.mono g4, g3.h2, ErrL.mono (g1.trans g4) _ hu⟩
  · skip
    refine Zj ?_; refine Za (l := [0]) rfl ?_; refine Zao rfl rfl rfl rfl rfl rfl ?_; refine Zf ?_; refine Zb ?_; refine Zj ?_
    refine Zx rfl (fun hc7 => ?_) (fun hc7 => ?_)
    · first | replace hc7 := dT hc7 | replace hc7 := dF hc7 | replace hc7 := nT hc7 | replace hc7 := nF hc7 | skip
      first
      | (exfalso; omega)
      | (exfalso; simp [eqX] at hc7; done)
      | contradiction
      | skip
        refine Zu ?_; refine Zb ?_; refine Zj ?_; refine Zaa ?_; refine Zj ?_; refine Za (l := [0, 1, 2]) rfl ?_; refine Zn rfl rfl rfl rfl F.elem25 (by first | rfl | exact (Int.toNat_of_nonneg (by omega)).symm) (by first | omega | (simp; done) | (simp; omega)) (by first | exact ⟨_, _, rfl⟩ | assumption | exact SlM.plain (by assumption) (by first | (simp; done) | (simp; omega)) | exact RdS.plain (by assumption) (by first | (simp; done) | (simp; omega)) | exact OSl.plain (by assumption) (by first | (simp; done) | (simp; omega))) rfl ?_
        first | refine Zan rfl rfl rfl (by repeat first | exact List.Mem.head _ | refine List.Mem.tail _ ?_ | refine List.mem_append_right _ ?_) F.lay30 rfl rfl rfl ?_ | refine Zs rfl rfl rfl (by first | assumption | exact SlM.mono (by assumption) (by assumption)) (by first | exact Zg (by omega) | exact List.getElem?_eq_getElem (by omega) | exact rfl | exact Zg (by first | (simp; done) | (simp; omega))) F.lay30 rfl rfl rfl ?_ | refine Zr rfl rfl rfl (by assumption) (by first | exact Zg (by omega) | exact List.getElem?_eq_getElem (by omega) | exact rfl | exact Zg (by first | (simp; done) | (simp; omega))) F.lay30 rfl rfl rfl ?_ | refine Zp rfl rfl rfl (by first | assumption | exact Mem.get_of (by assumption) (by repeat first | assumption | refine Mem.le.trans (by assumption) ?_)) F.lay30 rfl rfl rfl ?_ | refine Zo rfl rfl rfl (by assumption) (by repeat first | exact Rem.here _ | exact Rem.two | apply Rem.skip | apply Rem.over) (by first | exact Zg (by omega) | exact List.getElem?_eq_getElem (by omega) | exact rfl | exact Zg (by first | (simp; done) | (simp; omega))) F.lay30 rfl rfl rfl ?_ | refine Zq rfl rfl rfl (by repeat first | exact List.Mem.head _ | refine List.Mem.tail _ ?_ | refine List.mem_append_right _ ?_) F.lay30 (by first | exact Zbj (by first | omega | decide) | exact Zax (by first | omega | decide)) rfl ?_
        refine Zbf 11 rfl hwk ?_; refine Ze rfl rfl rfl rfl ?_; refine Zf ?_; refine Zb ?_; refine Zj ?_; refine Za (l := [0, 1]) rfl ?_; refine Zc rfl rfl rfl rfl ?_; refine Zby rfl rfl rfl rfl Tryd.underlying30 rfl rfl ?_; refine Zf ?_; refine Zb ?_; refine Zcc rfl ?_; refine Za (l := [0, 1, 2, 3, 4]) rfl ?_; refine Zc rfl rfl rfl rfl ?_; refine Zc rfl rfl rfl rfl ?_
        refine Zal rfl rfl F.elem25 F.zero30 rfl rfl (.cons rfl (by constructor) .nil) rfl rfl (by simp only [List.map_cons, List.map_nil] <;> rfl) rfl ?_; intro b8 hob9
        refine Zbp (m := 1000000) rfl rfl rfl rfl rfl F.elem25 F.zero30 (by first | rfl | exact Zbm rfl) rfl (by first | assumption | exact OSl.nil) (by repeat first | exact Rem.here _ | exact Rem.two | apply Rem.skip | apply Rem.over) (Src.own hob9.lens (by first | exact StepL06V.flat1 _ | exact StepL06V.flat1 ⟨_, _, _, _⟩ | exact TrR.flat1 _ | (refine Zar ?_; (repeat (first | exact Zap | refine Zbi ?_ | (refine Zaf ?_ ?_; rfl))); done) | (refine Zar ?_; exact PeerV.flat _) | (simp [rowsCells, Segs.cells, Seg.cells, Value.oneCell']; done)) rfl (by repeat first | exact List.Mem.head _ | refine List.Mem.tail _ ?_ | refine List.mem_append_right _ ?_)) (by first | omega | (simp; done) | (simp; omega)) (by decide) rfl ?_; intro v12 hs11 ho10; obtain ⟨adv12, cpv12, rfl⟩ := ho10.val
        refine Ze rfl rfl rfl rfl ?_; refine Zf ?_; refine Zbk ?_; refine Zb ?_; refine Za (l := [0, 1]) rfl ?_; refine Zai rfl rfl rfl rfl rfl (by first | exact Zt (by decide) (by omega) | exact Zz (by decide) (by omega) | exact Zae (by decide) (by omega) | exact Zm (by decide) (by omega) | exact Zah _ | exact Zay _ | exact Zak _ | exact rfl) rfl ?_; refine Zc rfl rfl rfl rfl ?_; refine Zf ?_; refine Zbg (a' := [(8, _), (3, _)]) (k + 1) (hs11) (.cons (k := 8) rfl (.cons (k := 3) rfl (.cons (k := 7) rfl (.cons (k := 6) rfl (.cons (k := 2) rfl (.nil)))))) (by first | exact Mem.le.refl _ | assumption | (repeat first | assumption | refine Mem.le.trans (by assumption) ?_)) (fun w hw => by first | exact hw | exact hw.cnt (by intro zz; first | exact Nat.le_refl _ | (simp only [Zh, Zd, Zi, cat, List.append_eq, List.append_assoc, List.cons_append, List.nil_append, List.append_nil]; omega) | (simp only [Zh, Zd, Zi, cat, List.append_eq, List.append_assoc, List.cons_append, List.nil_append, List.append_nil, StepL06V.segs]; omega))) ?_ ?_
        · refine ⟨_, us ++ [.iface t1 u1], rfl, rfl, by omega, ?_, ?_⟩
          · rw [List.map_append]; exact ho10
          · rw [hst]; exact hu.snoc hev
        · omega
    · first | replace hc7 := dT hc7 | replace hc7 := dF hc7 | replace hc7 := nT hc7 | replace hc7 := nF hc7 | skip
      first
      | (exfalso; omega)
      | (exfalso; simp [eqX] at hc7; done)
      | contradiction
      | skip
        refine Zbt ?_; refine Zbd ?_; refine Zbd ?_; refine Zca ?_; refine Zb ?_; refine Zk (.cons (k := 3) rfl (.cons (k := 2) rfl .nil)) ?_; refine Zj ?_; refine Zj ?_; refine Za (l := [0, 1, 2]) rfl ?_; refine Zc rfl rfl rfl rfl ?_; refine Zas rfl rfl rfl rfl F.elem25 rfl ?_; refine Zao rfl rfl rfl rfl rfl rfl ?_; refine Zf ?_; refine Zb ?_; refine Zk (.cons (k := 21) rfl (.cons (k := 3) rfl (.cons (k := 2) rfl .nil))) ?_
        refine Zx rfl (fun hc13 => ?_) (fun hc13 => ?_)
        · first | replace hc13 := dT hc13 | replace hc13 := dF hc13 | replace hc13 := nT hc13 | replace hc13 := nF hc13 | skip
          first
          | (exfalso; omega)
          | (exfalso; simp [eqX] at hc13; done)
          | contradiction
          | skip
            refine Zj ?_; refine Za (l := [0]) rfl ?_; refine Ze rfl rfl rfl rfl ?_; refine Zf ?_; refine Zb ?_; refine Zk (.cons (k := 2) rfl (.cons (k := 3) rfl .nil)) ?_; refine Zag ?_; refine Zam ?_
            refine Zab (.inr rfl) (.tmp rfl .nil) (fun w hw => ?_)
            refine ⟨_, M, rfl, Mem.le.refl M, hw.cnt (by intro zz; first | exact Nat.le_refl _ | (simp only [Zh, Zd, Zi, cat, List.append_eq, List.append_assoc, List.cons_append, List.nil_append, List.append_nil]; omega) | (simp only [Zh, Zd, Zi, cat, List.append_eq, List.append_assoc, List.cons_append, List.nil_append, List.append_nil, StepL06V.segs]; omega)), ?_⟩
            obtain rfl : k = s_l.length := by omega
            have h9 : somes es = [] := by
              have h8 : us = [] := List.length_eq_zero_iff.1 (by omega)
              subst h8
              rw [List.take_of_length_le (by omega)] at hlu
              exact List.length_eq_zero_iff.1 hlu.symm
            show OE M (joinE (somes es)) _
            rw [h9]; rfl
        · first | replace hc13 := dT hc13 | replace hc13 := dF hc13 | replace hc13 := nT hc13 | replace hc13 := nF hc13 | skip
          first
          | (exfalso; omega)
          | (exfalso; simp [eqX] at hc13; done)
          | contradiction
          | skip
            refine Zu ?_; refine Zb ?_; refine Zk (.cons (k := 3) rfl (.cons (k := 2) rfl .nil)) ?_; refine Zj ?_; refine Za (l := [0, 1, 2, 3, 4]) rfl ?_; refine Zc rfl rfl rfl rfl ?_; refine Zbn rfl rfl F.bld71 (.cons rfl (by constructor) .nil) rfl rfl ?_
            refine X_box rfl rfl rfl (by constructor) rfl ?_; intro b14
            refine X_iface rfl rfl rfl Tryd.underlying69 rfl rfl ?_; refine Ze rfl rfl rfl rfl ?_; refine Zf ?_; refine Zb ?_; refine Zk (.cons (k := 2) rfl .nil) ?_; refine Zag ?_
            refine Zab (.inr rfl) (.tmp rfl .nil) (fun w hw => ?_)
            have hw2 : St M (h1 ++ ((b14, rowO [.one (.slice ad1 us.length cp1)] 71) :: H)) w := hw.cnt (by intro zz; first | exact Nat.le_refl _ | (simp only [Zh, Zd, Zi, cat, List.append_eq, List.append_assoc, List.cons_append, List.nil_append, List.append_nil]; omega) | (simp only [Zh, Zd, Zi, cat, List.append_eq, List.append_assoc, List.cons_append, List.nil_append, List.append_nil, StepL06V.segs]; omega))
            obtain ⟨M2, g1, g2, g3⟩ := ho.frz hw2
            obtain ⟨g4, g5⟩ := g2.freeze
            refine ⟨_, _, rfl, g1.trans g4, g5, ?_⟩
            obtain rfl : k = s_l.length := by omega
            rw [List.take_of_length_le (by omega)] at hu
            have h8 : us.length ≠ 0 := by omega
            have hlu9 := hu.len
            show OE _ (joinE (somes es)) _
            cases hse : somes es with
            | nil => rw [hse] at hlu9; exact (h8 hlu9).elim
            | cons e9 r9 =>
              rw [hse] at hu
              exact ⟨by simp, b14, us, ad1, cp1, rfl, Mem.add_self _ _ _, g3.h1.mono g4, g3.h2, ErrL.mono (g1.trans g4) _ hu⟩
theorem bHas_nil (M : Mem) (c : Int) : Fs Tryd.prog 11 [.nilIface, .int .i64 c] M (fun v => v = .bool (hasO none c)) := by
  refine Zbb Tryd.func11 rfl Tryd.ntmps11 rfl ?_; intro H
  refine Zj ?_; refine Za (l := [0]) rfl ?_; refine Ze rfl rfl rfl rfl ?_; refine Zf ?_; refine Zb ?_; refine Zj ?_; refine Zj ?_; refine Za (l := [0, 1, 2, 3, 4, 5]) rfl ?_; refine Zc rfl rfl rfl rfl ?_; refine Zby rfl rfl rfl rfl Tryd.underlying30 rfl rfl ?_; refine Zc rfl rfl rfl rfl ?_; refine Zba rfl rfl rfl ?_; refine Zba rfl rfl rfl ?_; refine Zau rfl rfl rfl rfl rfl ?_; refine Zf ?_; refine Zb ?_; refine Zk (.cons (k := 10) rfl (.cons (k := 4) rfl (.cons (k := 0) rfl (.cons (k := 1) rfl .nil)))) ?_; refine Zcc rfl ?_; refine Zj ?_; refine Za (l := [0, 1, 2, 3, 4, 5, 6]) rfl ?_; refine Zc rfl rfl rfl rfl ?_; refine Zby rfl rfl rfl rfl Tryd.underlying30 rfl rfl ?_; refine Zc rfl rfl rfl rfl ?_; refine Zc rfl rfl rfl rfl ?_; refine Zao rfl rfl rfl rfl rfl rfl ?_; refine Zau rfl rfl rfl rfl rfl ?_
  refine Ze rfl rfl rfl rfl ?_; refine Zf ?_; refine Zb ?_; refine Zk (.cons (k := 4) rfl (.cons (k := 0) rfl (.cons (k := 1) rfl .nil))) ?_; refine Zag ?_; refine Zam ?_
  refine Zab (.inr rfl) (.tmp rfl .nil) (fun w hw => ?_)
  refine ⟨_, rfl, hw.cnt (by intro zz; first | exact Nat.le_refl _ | (simp only [Zh, Zd, Zi, cat, List.append_eq, List.append_assoc, List.cons_append, List.nil_append, List.append_nil]; omega) | (simp only [Zh, Zd, Zi, cat, List.append_eq, List.append_assoc, List.cons_append, List.nil_append, List.append_nil, StepL06V.segs]; omega)), ?_⟩
  clear hw
  refine congrArg Value.bool ?_
  first | (simp_all [hasO, codesO]; done) | (rw [hasO, if_neg (by assumption)]; exact decide_eq_decide.2 Iff.rfl)
theorem bHas_some (M : Mem) (c : Int) (e : Err) (v : Value) (he : ErrV M e v) : Fs Tryd.prog 11 [v, .int .i64 c] M (fun v => v = .bool (hasO (some e) c)) := by
  obtain ⟨t1, u1, rfl⟩ := he.iface
  refine Zbb Tryd.func11 rfl Tryd.ntmps11 rfl ?_; intro H
  refine Zj ?_; refine Za (l := [0]) rfl ?_; refine Ze rfl rfl rfl rfl ?_; refine Zf ?_; refine Zb ?_; refine Zj ?_; refine Zj ?_; refine Za (l := [0, 1, 2, 3, 4, 5]) rfl ?_; refine Zc rfl rfl rfl rfl ?_; refine Zby rfl rfl rfl rfl Tryd.underlying30 rfl rfl ?_; refine Zc rfl rfl rfl rfl ?_; refine Zc rfl rfl rfl rfl ?_; refine Zao rfl rfl rfl rfl rfl rfl ?_; refine Zau rfl rfl rfl rfl rfl ?_; refine Zf ?_; refine Zb ?_; refine Zk (.cons (k := 10) rfl (.cons (k := 4) rfl (.cons (k := 0) rfl (.cons (k := 1) rfl .nil)))) ?_
  refine Zx rfl (fun hc1 => ?_) (fun hc1 => ?_)
  · first | replace hc1 := dT hc1 | replace hc1 := dF hc1 | replace hc1 := nT hc1 | replace hc1 := nF hc1 | skip
    first
    | (exfalso; omega)
    | (exfalso; simp [eqX] at hc1; done)
    | contradiction
    | skip
      refine Zj ?_; refine Za (l := [0, 1, 2, 3, 4, 5, 6]) rfl ?_; refine Zc rfl rfl rfl rfl ?_; refine Zby rfl rfl rfl rfl Tryd.underlying30 rfl rfl ?_; refine Zc rfl rfl rfl rfl ?_; refine Zba rfl rfl rfl ?_; refine Zba rfl rfl rfl ?_; refine Zau rfl rfl rfl rfl rfl ?_; refine Ze rfl rfl rfl rfl ?_; refine Zf ?_; refine Zb ?_; refine Zk (.cons (k := 4) rfl (.cons (k := 0) rfl (.cons (k := 1) rfl .nil))) ?_; refine Zag ?_; refine Zam ?_
      refine Zab (.inr rfl) (.tmp rfl .nil) (fun w hw => ?_)
      refine ⟨_, rfl, hw.cnt (by intro zz; first | exact Nat.le_refl _ | (simp only [Zh, Zd, Zi, cat, List.append_eq, List.append_assoc, List.cons_append, List.nil_append, List.append_nil]; omega) | (simp only [Zh, Zd, Zi, cat, List.append_eq, List.append_assoc, List.cons_append, List.nil_append, List.append_nil, StepL06V.segs]; omega)), ?_⟩
      clear hw
      refine congrArg Value.bool ?_
      first | (simp_all [hasO, codesO]; done) | (rw [hasO, if_neg (by assumption)]; exact decide_eq_decide.2 Iff.rfl)
  · first | replace hc1 := dT hc1 | replace hc1 := dF hc1 | replace hc1 := nT hc1 | replace hc1 := nF hc1 | skip
    first
    | (exfalso; omega)
    | (exfalso; simp [eqX] at hc1; done)
    | contradiction
    | skip
      refine Zu ?_; refine Zb ?_; refine Zk (.cons (k := 4) rfl (.cons (k := 0) rfl (.cons (k := 1) rfl .nil))) ?_; refine Zj ?_; refine Za (l := [0, 1, 2, 3, 4]) rfl ?_; refine Zc rfl rfl rfl rfl ?_; refine Zc rfl rfl rfl rfl ?_; refine X_fs rfl rfl F.ok23 rfl (bNew_ok _ _) rfl ?_
      rintro _ rfl
      refine Zbf 19 rfl (show newE c = .iface 60 (aggV [.one (.int .i64 c)]) from if_neg (by assumption)) ?_; refine X_fs rfl rfl F.ok30 rfl (eIs_ok M c e _ he) rfl ?_
      rintro _ rfl
      refine Ze rfl rfl rfl rfl ?_; refine Zf ?_; refine Zb ?_; refine Zk (.cons (k := 4) rfl .nil) ?_; refine Zag ?_
      refine Zab (.inr rfl) (.tmp rfl .nil) (fun w hw => ?_)
      refine ⟨_, rfl, hw.cnt (by intro zz; first | exact Nat.le_refl _ | (simp only [Zh, Zd, Zi, cat, List.append_eq, List.append_assoc, List.cons_append, List.nil_append, List.append_nil]; omega) | (simp only [Zh, Zd, Zi, cat, List.append_eq, List.append_assoc, List.cons_append, List.nil_append, List.append_nil, StepL06V.segs]; omega)), ?_⟩
      clear hw
      refine congrArg Value.bool ?_
      first | (simp_all [hasO, codesO]; done) | (rw [hasO, if_neg (by assumption)]; exact decide_eq_decide.2 Iff.rfl)
theorem bHas_o (M : Mem) (c : Int) (o : Option Err) (v : Value) (ho : OE M o v) : Fs Tryd.prog 11 [v, .int .i64 c] M (fun v => v = .bool (hasO o c)) := by
  cases o with
  | none => obtain rfl : v = .nilIface := ho; exact bHas_nil M c
  | some e => exact bHas_some M c e v ho
theorem bAgain_o (M : Mem) (o : Option Err) (v : Value) (ho : OE M o v) : Fs Tryd.prog 13 [v] M (fun v => v = .bool (againO o)) := by
  refine Zbb Tryd.func13 rfl Tryd.ntmps13 rfl ?_; intro H
  refine Zj ?_; refine Za (l := [0]) rfl ?_; refine Ze rfl rfl rfl rfl ?_; refine Zf ?_; refine Zb ?_; refine Zj ?_; refine Zaa ?_; refine Zj ?_; refine Zaa ?_; refine Zaa ?_; refine Zaa ?_; refine Zj ?_; refine Zj ?_; refine Zj ?_; refine Za (l := [0, 1, 2]) rfl ?_; refine Zc rfl rfl rfl rfl ?_; refine X_fs rfl rfl F.ok11 rfl (bHas_o M _ o _ ho) rfl ?_
  rintro _ rfl
  refine Ze rfl rfl rfl rfl ?_; refine Zf ?_; refine Zb ?_; refine Zk (.cons (k := 3) rfl (.cons (k := 2) rfl (.cons (k := 0) rfl .nil))) ?_
  refine Zx rfl (fun hc1 => ?_) (fun hc1 => ?_)
  · skip
    first
    | (exfalso; omega)
    | (exfalso; simp [eqX] at hc1; done)
    | contradiction
    | skip
      refine Zbt ?_; refine Zbd ?_; refine Zbd ?_; refine Zca ?_; refine Zbk ?_; refine Zbk ?_; refine Zb ?_; refine Zk (.cons (k := 2) rfl .nil) ?_; refine Zj ?_; refine Zj ?_; refine Za (l := [0]) rfl ?_; refine Ze rfl rfl rfl rfl ?_; refine Zf ?_; refine Zb ?_; refine Zag ?_; refine Zam ?_; refine Zaw ?_; refine Zam ?_
      refine Zab (.inr rfl) (.tmp rfl .nil) (fun w hw => ?_)
      refine ⟨_, rfl, hw.cnt (by intro zz; first | exact Nat.le_refl _ | (simp only [Zh, Zd, Zi, cat, List.append_eq, List.append_assoc, List.cons_append, List.nil_append, List.append_nil]; omega) | (simp only [Zh, Zd, Zi, cat, List.append_eq, List.append_assoc, List.cons_append, List.nil_append, List.append_nil, StepL06V.segs]; omega)), ?_⟩
      clear hw
      refine congrArg Value.bool ?_
      simp_all [againO]
  · skip
    first
    | (exfalso; omega)
    | (exfalso; simp [eqX] at hc1; done)
    | contradiction
    | skip
      refine Zu ?_; refine Zb ?_; refine Zk (.cons (k := 2) rfl (.cons (k := 0) rfl .nil)) ?_; refine Zj ?_; refine Zj ?_; refine Za (l := [0, 1, 2]) rfl ?_; refine Zc rfl rfl rfl rfl ?_; refine X_fs rfl rfl F.ok11 rfl (bHas_o M _ o _ ho) rfl ?_
      rintro _ rfl
      refine Ze rfl rfl rfl rfl ?_; refine Zf ?_; refine Zb ?_; refine Zk (.cons (k := 6) rfl (.cons (k := 2) rfl (.cons (k := 0) rfl .nil))) ?_
      refine Zx rfl (fun hc2 => ?_) (fun hc2 => ?_)
      · skip
        first
        | (exfalso; omega)
        | (exfalso; simp [eqX] at hc2; done)
        | contradiction
        | skip
          refine Zbt ?_; refine Zbd ?_; refine Zbd ?_; refine K_miss (by decide) ?_; refine Zca ?_; refine Zbk ?_; refine Zb ?_; refine Zk (.cons (k := 2) rfl .nil) ?_; refine Zj ?_; refine Zj ?_; refine Za (l := [0]) rfl ?_; refine Ze rfl rfl rfl rfl ?_; refine Zf ?_; refine Zb ?_; refine Zag ?_; refine Zam ?_; refine Zaw ?_; refine Zam ?_
          refine Zab (.inr rfl) (.tmp rfl .nil) (fun w hw => ?_)
          refine ⟨_, rfl, hw.cnt (by intro zz; first | exact Nat.le_refl _ | (simp only [Zh, Zd, Zi, cat, List.append_eq, List.append_assoc, List.cons_append, List.nil_append, List.append_nil]; omega) | (simp only [Zh, Zd, Zi, cat, List.append_eq, List.append_assoc, List.cons_append, List.nil_append, List.append_nil, StepL06V.segs]; omega)), ?_⟩
          clear hw
          refine congrArg Value.bool ?_
          simp_all [againO]
      · skip
        first
        | (exfalso; omega)
        | (exfalso; simp [eqX] at hc2; done)
        | contradiction
        | skip
          refine Zu ?_; refine Zb ?_; refine Zk (.cons (k := 2) rfl (.cons (k := 0) rfl .nil)) ?_; refine Zj ?_; refine Za (l := [0, 1, 2]) rfl ?_; refine Zc rfl rfl rfl rfl ?_; refine X_fs rfl rfl F.ok11 rfl (bHas_o M _ o _ ho) rfl ?_
          rintro _ rfl
          refine Ze rfl rfl rfl rfl ?_; refine Zf ?_; refine Zb ?_; refine Zk (.cons (k := 9) rfl (.cons (k := 2) rfl .nil)) ?_
          refine Zx rfl (fun hc3 => ?_) (fun hc3 => ?_)
          · skip
            first
            | (exfalso; omega)
            | (exfalso; simp [eqX] at hc3; done)
            | contradiction
            | skip
              refine Zbt ?_; refine Zbd ?_; refine K_miss (by decide) ?_; refine K_miss (by decide) ?_; refine Zca ?_; refine Zb ?_; refine Zk (.cons (k := 2) rfl .nil) ?_; refine Zj ?_; refine Zj ?_; refine Za (l := [0]) rfl ?_; refine Ze rfl rfl rfl rfl ?_; refine Zf ?_; refine Zb ?_; refine Zag ?_; refine Zam ?_; refine Zaw ?_; refine Zam ?_
              refine Zab (.inr rfl) (.tmp rfl .nil) (fun w hw => ?_)
              refine ⟨_, rfl, hw.cnt (by intro zz; first | exact Nat.le_refl _ | (simp only [Zh, Zd, Zi, cat, List.append_eq, List.append_assoc, List.cons_append, List.nil_append, List.append_nil]; omega) | (simp only [Zh, Zd, Zi, cat, List.append_eq, List.append_assoc, List.cons_append, List.nil_append, List.append_nil, StepL06V.segs]; omega)), ?_⟩
              clear hw
              refine congrArg Value.bool ?_
              simp_all [againO]
          · skip
            first
            | (exfalso; omega)
            | (exfalso; simp [eqX] at hc3; done)
            | contradiction
            | skip
              refine Zu ?_; refine Zb ?_; refine Zk (.cons (k := 2) rfl .nil) ?_; refine Zbt ?_; refine K_miss (by decide) ?_; refine K_miss (by decide) ?_; refine K_miss (by decide) ?_; refine Zbd ?_; refine Zca ?_; refine Zb ?_; refine Zj ?_; refine Za (l := [0]) rfl ?_; refine Ze rfl rfl rfl rfl ?_; refine Zf ?_; refine Zb ?_; refine Zag ?_
              refine Zab (.inr rfl) (.tmp rfl .nil) (fun w hw => ?_)
              refine ⟨_, rfl, hw.cnt (by intro zz; first | exact Nat.le_refl _ | (simp only [Zh, Zd, Zi, cat, List.append_eq, List.append_assoc, List.cons_append, List.nil_append, List.append_nil]; omega) | (simp only [Zh, Zd, Zi, cat, List.append_eq, List.append_assoc, List.cons_append, List.nil_append, List.append_nil, StepL06V.segs]; omega)), ?_⟩
              clear hw
              refine congrArg Value.bool ?_
              simp_all [againO]
theorem bCode_nil (M : Mem) : Fs Tryd.prog 9 [.nilIface] M (fun v => v = .int .i64 0) := by
  refine Zbb Tryd.func9 rfl Tryd.ntmps9 rfl ?_; intro H
  refine Zj ?_; refine Za (l := [0]) rfl ?_; refine Ze rfl rfl rfl rfl ?_; refine Zf ?_; refine Zb ?_; refine Zj ?_; refine Za (l := [0]) rfl ?_
  refine Zbw rfl rfl F.zero60 (by constructor) rfl ?_; intro b1
  refine Zf ?_; refine Zb ?_; refine Zj ?_; refine Zaa ?_; refine Zj ?_; refine Za (l := [0, 1, 2]) rfl ?_; refine Zc rfl rfl rfl rfl ?_; refine Zby rfl rfl rfl rfl Tryd.underlying30 rfl rfl ?_; refine Ze rfl rfl rfl rfl ?_; refine Zf ?_; refine Zb ?_; refine Zk (.cons (k := 4) rfl (.cons (k := 3) rfl (.cons (k := 2) rfl (.cons (k := 0) rfl .nil)))) ?_
  refine Zx rfl (fun hc2 => ?_) (fun hc2 => ?_)
  · first | replace hc2 := dT hc2 | replace hc2 := dF hc2 | replace hc2 := nT hc2 | replace hc2 := nF hc2 | skip
    first
    | (exfalso; omega)
    | (exfalso; simp [eqX] at hc2; done)
    | contradiction
    | skip
      refine Zj ?_; refine Za (l := [0]) rfl ?_; refine Ze rfl rfl rfl rfl ?_; refine Zf ?_; refine Zb ?_; refine Zk (.cons (k := 2) rfl .nil) ?_; refine Zag ?_; refine Zaw ?_; refine Zam ?_
      refine Zab (.inr rfl) (.tmp rfl .nil) (fun w hw => ?_)
      exact ⟨_, rfl, hw.cnt (by intro zz; first | exact Nat.le_refl _ | (simp only [Zh, Zd, Zi, cat, List.append_eq, List.append_assoc, List.cons_append, List.nil_append, List.append_nil]; omega) | (simp only [Zh, Zd, Zi, cat, List.append_eq, List.append_assoc, List.cons_append, List.nil_append, List.append_nil, StepL06V.segs]; omega)), rfl⟩
  · first | replace hc2 := dT hc2 | replace hc2 := dF hc2 | replace hc2 := nT hc2 | replace hc2 := nF hc2 | skip
    first
    | (exfalso; omega)
    | (exfalso; simp [eqX] at hc2; done)
    | contradiction
    | skip
      refine Zj ?_; refine Za (l := [0, 1, 2, 3]) rfl ?_; refine Zc rfl rfl rfl rfl ?_; refine X_iface rfl rfl rfl Tryd.underlying62 rfl rfl ?_
      fail
      refine Ze rfl rfl rfl rfl ?_; refine Zf ?_; refine Zb ?_; refine Zk (.cons (k := 7) rfl (.cons (k := 3) rfl (.cons (k := 2) rfl .nil))) ?_
      refine Zx rfl (fun hc3 => ?_) (fun hc3 => ?_)
      · first | replace hc3 := dT hc3 | replace hc3 := dF hc3 | replace hc3 := nT hc3 | replace hc3 := nF hc3 | skip
        first
        | (exfalso; omega)
        | (exfalso; simp [eqX] at hc3; done)
        | contradiction
        | skip
          refine Zj ?_; refine Za (l := [0, 1, 2]) rfl ?_
          first | refine Zad rfl rfl rfl F.foff60_0 rfl ?_ | refine Zv rfl rfl rfl (by first | exact ⟨_, _, rfl⟩ | assumption | exact SlM.plain (by assumption) (by first | (simp; done) | (simp; omega)) | exact RdS.plain (by assumption) (by first | (simp; done) | (simp; omega)) | exact OSl.plain (by assumption) (by first | (simp; done) | (simp; omega))) F.foff60_0 rfl ?_
          first | refine Zan rfl rfl rfl (by repeat first | exact List.Mem.head _ | refine List.Mem.tail _ ?_ | refine List.mem_append_right _ ?_) F.lay23 rfl rfl rfl ?_ | refine Zs rfl rfl rfl (by first | assumption | exact SlM.mono (by assumption) (by assumption)) (by first | exact Zg (by omega) | exact List.getElem?_eq_getElem (by omega) | exact rfl | exact Zg (by first | (simp; done) | (simp; omega))) F.lay23 rfl rfl rfl ?_ | refine Zr rfl rfl rfl (by assumption) (by first | exact Zg (by omega) | exact List.getElem?_eq_getElem (by omega) | exact rfl | exact Zg (by first | (simp; done) | (simp; omega))) F.lay23 rfl rfl rfl ?_ | refine Zp rfl rfl rfl (by first | assumption | exact Mem.get_of (by assumption) (by repeat first | assumption | refine Mem.le.trans (by assumption) ?_)) F.lay23 rfl rfl rfl ?_ | refine Zo rfl rfl rfl (by assumption) (by repeat first | exact Rem.here _ | exact Rem.two | apply Rem.skip | apply Rem.over) (by first | exact Zg (by omega) | exact List.getElem?_eq_getElem (by omega) | exact rfl | exact Zg (by first | (simp; done) | (simp; omega))) F.lay23 rfl rfl rfl ?_ | refine Zq rfl rfl rfl (by repeat first | exact List.Mem.head _ | refine List.Mem.tail _ ?_ | refine List.mem_append_right _ ?_) F.lay23 (by first | exact Zbj (by first | omega | decide) | exact Zax (by first | omega | decide)) rfl ?_
          refine Ze rfl rfl rfl rfl ?_; refine Zf ?_; refine Zb ?_; refine Zk (.cons (k := 2) rfl .nil) ?_; refine Zag ?_; refine Zaw ?_; refine Zam ?_
          refine Zab (.inr rfl) (.tmp rfl .nil) (fun w hw => ?_)
          exact ⟨_, rfl, hw.cnt (by intro zz; first | exact Nat.le_refl _ | (simp only [Zh, Zd, Zi, cat, List.append_eq, List.append_assoc, List.cons_append, List.nil_append, List.append_nil]; omega) | (simp only [Zh, Zd, Zi, cat, List.append_eq, List.append_assoc, List.cons_append, List.nil_append, List.append_nil, StepL06V.segs]; omega)), rfl⟩
      · first | replace hc3 := dT hc3 | replace hc3 := dF hc3 | replace hc3 := nT hc3 | replace hc3 := nF hc3 | skip
        first
        | (exfalso; omega)
        | (exfalso; simp [eqX] at hc3; done)
        | contradiction
        | skip
          refine Zu ?_; refine Zbk ?_; refine Zb ?_; refine Zk (.cons (k := 2) rfl .nil) ?_; refine Zj ?_; refine Za (l := [0]) rfl ?_; refine Ze rfl rfl rfl rfl ?_; refine Zf ?_; refine Zb ?_; refine Zag ?_
          refine Zab (.inr rfl) (.tmp rfl .nil) (fun w hw => ?_)
          exact ⟨_, rfl, hw.cnt (by intro zz; first | exact Nat.le_refl _ | (simp only [Zh, Zd, Zi, cat, List.append_eq, List.append_assoc, List.cons_append, List.nil_append, List.append_nil]; omega) | (simp only [Zh, Zd, Zi, cat, List.append_eq, List.append_assoc, List.cons_append, List.nil_append, List.append_nil, StepL06V.segs]; omega)), rfl⟩
theorem bCode_o (M : Mem) (hE : EG M) (o : Option Err) (v : Value) (ho : OE M o v) : Fs Tryd.prog 9 [v] M (fun v => v = .int .i64 (codeO o)) := by
  cases o with
  | none => obtain rfl : v = .nilIface := ho; exact bCode_nil M
  | some e => exact bCode_ok M e v ho hE
end Go.Proofs.YtbeahcfghjiogaaDoor
namespace Go.Proofs.YtbeahcfghjiogaaDoor
open Go.Esp
theorem F.elem40 : slOf Tryd.prog 40 = some (9, 1, 16) := by kernel_rfl
theorem F.foff68_0 : foff Tryd.prog 68 0 = some 0 := by kernel_rfl
theorem F.lay9 : lay Tryd.prog 9 = some (false, 1) := by kernel_rfl
theorem F.meth60_Error (v : Value) : Meth Tryd.prog 60 v "Error" 56 v := fun w => by kernel_rfl
theorem F.meth66_Error (p : Option Addr) : Meth Tryd.prog 66 (.pointer p) "Error" 71 (.pointer p) := fun w => by kernel_rfl
theorem F.meth69_Error (p : Option Addr) : Meth Tryd.prog 69 (.pointer p) "Error" 73 (.pointer p) := fun w => by kernel_rfl
theorem F.ok56 : okFn Tryd.prog 56 = true := by kernel_rfl
theorem F.ok57 : okFn Tryd.prog 57 = true := by kernel_rfl
theorem F.ok71 : okFn Tryd.prog 71 = true := by kernel_rfl
theorem F.ok73 : okFn Tryd.prog 73 = true := by kernel_rfl
theorem F.ok75 : okFn Tryd.prog 75 = true := by kernel_rfl
theorem F.zero9 : zeroOf Tryd.prog 9 = some ((.string ⟨#[]⟩)) := by kernel_rfl
def ItoaAt (dg : Int → ByteArray) (M : Mem) (c : Int) : Prop := Fs Tryd.prog 57 [.int .i64 c] M (fun v => v = .string (dg c))
theorem Itoa_at (M : Mem) (c : Int) (hc : 0 ≤ c ∧ c < 100) : ItoaAt itoaB M c := Itoa_c M c hc
theorem Join_at (M : Mem) (hs : Hp) (T : Nat) (v : Value) (l : List ByteArray) (hM : M.dr = 0) (ho : OSl T 1 v hs (l.map oneS)) (hl : l.length ≤ 100000) (hz : sumS l ≤ 100000000) : Fo Tryd.prog 75 [v, .string semB] M hs (fun M' r => M' = M ∧ r = .string (joinB l)) := Join_ok M hs T v l hM ho hl hz
def TextOf (dg : Int → ByteArray) (M : Mem) (e : Err) (v : Value) : Prop := ∃ t u f r, v = .iface t u ∧ Meth Tryd.prog t u "Error" f r ∧ okFn Tryd.prog f = true ∧ Fo Tryd.prog f [r] M [] (fun M' x => M' = M ∧ x = .string (e.text dg))
theorem foOfFs {P : Program} {f : FuncId} {vs : List Value} {M : Mem} {x : Value} (h : Fs P f vs M (fun v => v = x)) : Fo P f vs M [] (fun M' v => M' = M ∧ v = x) := fun H w hw =>
  (h H w hw).mono fun _ _ ⟨v, he, hs, hr⟩ => ⟨v, M, he, Mem.le.refl M, hs, rfl, hr⟩
theorem cErr_ok (dg : Int → ByteArray) (hF : ShortF dg) (M : Mem) (c : Int) (hp : ItoaAt dg M c) (hc : okC c) : Fs Tryd.prog 56 [aggV [.one (.int .i64 c)]] M (fun v => v = .string ((Err.code c).text dg)) := by
  refine Zbb Tryd.func56 rfl Tryd.ntmps56 rfl ?_; intro H
  refine Zj ?_; refine Za (l := [0, 1]) rfl ?_
  refine X_box rfl rfl rfl (by constructor) rfl ?_; intro b1
  refine Ze rfl rfl rfl rfl ?_; refine Zf ?_; refine Zb ?_; refine Zk (.cons (k := 2) rfl (.cons (k := 1) rfl .nil)) ?_; refine Zj ?_; refine Za (l := [0, 1, 2, 3, 4]) rfl ?_
  first | refine Zad rfl rfl rfl F.foff60_0 rfl ?_ | refine Zv rfl rfl rfl (by first | exact ⟨_, _, rfl⟩ | assumption | exact SlM.plain (by assumption) (by first | (simp; done) | (simp; omega)) | exact RdS.plain (by assumption) (by first | (simp; done) | (simp; omega)) | exact OSl.plain (by assumption) (by first | (simp; done) | (simp; omega))) F.foff60_0 rfl ?_
  first | refine Zan rfl rfl rfl (by repeat first | exact List.Mem.head _ | refine List.Mem.tail _ ?_ | refine List.mem_append_right _ ?_) F.lay23 rfl rfl rfl ?_ | refine Zs rfl rfl rfl (by first | assumption | exact SlM.mono (by assumption) (by assumption)) (by first | exact Zg (by omega) | exact List.getElem?_eq_getElem (by omega) | exact rfl | exact Zg (by first | (simp; done) | (simp; omega))) F.lay23 rfl rfl rfl ?_ | refine Zr rfl rfl rfl (by assumption) (by first | exact Zg (by omega) | exact List.getElem?_eq_getElem (by omega) | exact rfl | exact Zg (by first | (simp; done) | (simp; omega))) F.lay23 rfl rfl rfl ?_ | refine Zp rfl rfl rfl (by first | assumption | exact Mem.get_of (by assumption) (by repeat first | assumption | refine Mem.le.trans (by assumption) ?_)) F.lay23 rfl rfl rfl ?_ | refine Zo rfl rfl rfl (by assumption) (by repeat first | exact Rem.here _ | exact Rem.two | apply Rem.skip | apply Rem.over) (by first | exact Zg (by omega) | exact List.getElem?_eq_getElem (by omega) | exact rfl | exact Zg (by first | (simp; done) | (simp; omega))) F.lay23 rfl rfl rfl ?_ | refine Zq rfl rfl rfl (by repeat first | exact List.Mem.head _ | refine List.Mem.tail _ ?_ | refine List.mem_append_right _ ?_) F.lay23 (by first | exact Zbj (by first | omega | decide) | exact Zax (by first | omega | decide)) rfl ?_
  refine X_fs rfl rfl F.ok57 rfl (hp) rfl ?_
  rintro _ rfl
  refine X_cat rfl rfl rfl rfl (by have h9 := hF c hc; have h8 : (ByteArray.mk #[101, 114, 114, 111, 114, 32]).size = 6 := rfl; omega) rfl rfl ?_; refine Ze rfl rfl rfl rfl ?_; refine Zf ?_; refine Zb ?_; refine Zk (.cons (k := 2) rfl .nil) ?_; refine Zag ?_
  refine Zab (.inr rfl) (.tmp rfl .nil) (fun w hw => ?_)
  exact ⟨_, rfl, hw.cnt (by intro zz; first | exact Nat.le_refl _ | (simp only [Zh, Zd, Zi, cat, List.append_eq, List.append_assoc, List.cons_append, List.nil_append, List.append_nil]; omega) | (simp only [Zh, Zd, Zi, cat, List.append_eq, List.append_assoc, List.cons_append, List.nil_append, List.append_nil, StepL06V.segs]; omega)), rfl⟩
theorem wErr_ok (dg : Int → ByteArray) (M : Mem) (b0 : Nat) (op : ByteArray) (e : Err) (v : Value) (hb : M b0 = some (rowO [.one (.string op), .one v] 68)) (ht : TextOf dg M e v) (hz : op.size + (e.text dg).size ≤ 1000000) : Fs Tryd.prog 71 [.pointer (some ⟨b0, 0, none⟩)] M (fun v => v = .string ((Err.wrap op e).text dg)) := by
  obtain ⟨t1, u1, f1, r1, rfl, hm1, hf1, hc1⟩ := ht
  refine Zbb Tryd.func71 rfl Tryd.ntmps71 rfl ?_; intro H
  refine Zj ?_; refine Za (l := [0]) rfl ?_; refine Ze rfl rfl rfl rfl ?_; refine Zf ?_; refine Zb ?_; refine Zj ?_; refine Zav (l := [0, 1, 2, 3, 4, 5, 6, 7, 8, 9, 10, 11]) #[0, 1, 3, 7, 15, 0, 32, 96, 224, 480, 1023, 2047] _ rfl (by kernel_rfl) (by kernel_rfl) St.drawn (fun _ h => h) ?_; refine Zc rfl rfl rfl rfl ?_; refine X_nilCheck rfl rfl rfl rfl ?_
  first | refine Zad rfl rfl rfl F.foff68_0 rfl ?_ | refine Zv rfl rfl rfl (by first | exact ⟨_, _, rfl⟩ | assumption | exact SlM.plain (by assumption) (by first | (simp; done) | (simp; omega)) | exact RdS.plain (by assumption) (by first | (simp; done) | (simp; omega)) | exact OSl.plain (by assumption) (by first | (simp; done) | (simp; omega))) F.foff68_0 rfl ?_
  first | refine Zan rfl rfl rfl (by repeat first | exact List.Mem.head _ | refine List.Mem.tail _ ?_ | refine List.mem_append_right _ ?_) F.lay9 rfl rfl rfl ?_ | refine Zs rfl rfl rfl (by first | assumption | exact SlM.mono (by assumption) (by assumption)) (by first | exact Zg (by omega) | exact List.getElem?_eq_getElem (by omega) | exact rfl | exact Zg (by first | (simp; done) | (simp; omega))) F.lay9 rfl rfl rfl ?_ | refine Zr rfl rfl rfl (by assumption) (by first | exact Zg (by omega) | exact List.getElem?_eq_getElem (by omega) | exact rfl | exact Zg (by first | (simp; done) | (simp; omega))) F.lay9 rfl rfl rfl ?_ | refine Zp rfl rfl rfl (by first | assumption | exact Mem.get_of (by assumption) (by repeat first | assumption | refine Mem.le.trans (by assumption) ?_)) F.lay9 rfl rfl rfl ?_ | refine Zo rfl rfl rfl (by assumption) (by repeat first | exact Rem.here _ | exact Rem.two | apply Rem.skip | apply Rem.over) (by first | exact Zg (by omega) | exact List.getElem?_eq_getElem (by omega) | exact rfl | exact Zg (by first | (simp; done) | (simp; omega))) F.lay9 rfl rfl rfl ?_ | refine Zq rfl rfl rfl (by repeat first | exact List.Mem.head _ | refine List.Mem.tail _ ?_ | refine List.mem_append_right _ ?_) F.lay9 (by first | exact Zbj (by first | omega | decide) | exact Zax (by first | omega | decide)) rfl ?_
  refine X_cat rfl rfl rfl rfl (by have h8 : (ByteArray.mk #[58, 32]).size = 2 := rfl; omega) rfl rfl ?_; refine Zc rfl rfl rfl rfl ?_; refine X_nilCheck rfl rfl rfl rfl ?_
  first | refine Zad rfl rfl rfl F.foff68_1 rfl ?_ | refine Zv rfl rfl rfl (by first | exact ⟨_, _, rfl⟩ | assumption | exact SlM.plain (by assumption) (by first | (simp; done) | (simp; omega)) | exact RdS.plain (by assumption) (by first | (simp; done) | (simp; omega)) | exact OSl.plain (by assumption) (by first | (simp; done) | (simp; omega))) F.foff68_1 rfl ?_
  first | refine Zan rfl rfl rfl (by repeat first | exact List.Mem.head _ | refine List.Mem.tail _ ?_ | refine List.mem_append_right _ ?_) F.lay30 rfl rfl rfl ?_ | refine Zs rfl rfl rfl (by first | assumption | exact SlM.mono (by assumption) (by assumption)) (by first | exact Zg (by omega) | exact List.getElem?_eq_getElem (by omega) | exact rfl | exact Zg (by first | (simp; done) | (simp; omega))) F.lay30 rfl rfl rfl ?_ | refine Zr rfl rfl rfl (by assumption) (by first | exact Zg (by omega) | exact List.getElem?_eq_getElem (by omega) | exact rfl | exact Zg (by first | (simp; done) | (simp; omega))) F.lay30 rfl rfl rfl ?_ | refine Zp rfl rfl rfl (by first | assumption | exact Mem.get_of (by assumption) (by repeat first | assumption | refine Mem.le.trans (by assumption) ?_)) F.lay30 rfl rfl rfl ?_ | refine Zo rfl rfl rfl (by assumption) (by repeat first | exact Rem.here _ | exact Rem.two | apply Rem.skip | apply Rem.over) (by first | exact Zg (by omega) | exact List.getElem?_eq_getElem (by omega) | exact rfl | exact Zg (by first | (simp; done) | (simp; omega))) F.lay30 rfl rfl rfl ?_ | refine Zq rfl rfl rfl (by repeat first | exact List.Mem.head _ | refine List.Mem.tail _ ?_ | refine List.mem_append_right _ ?_) F.lay30 (by first | exact Zbj (by first | omega | decide) | exact Zax (by first | omega | decide)) rfl ?_
  refine X_invO rfl rfl rfl hm1 hf1 rfl hc1 (Rem.here _ : Rem [] _ _) rfl ?_
  rintro _ M1 _ ⟨hM1, rfl⟩; obtain rfl := hM1.symm
  refine X_cat rfl rfl rfl rfl (by simp only [ByteArray.size_append]; have h8 : (ByteArray.mk #[58, 32]).size = 2 := rfl; omega) rfl rfl ?_; refine Ze rfl rfl rfl rfl ?_; refine Zf ?_; refine Zb ?_; refine Zk (.cons (k := 2) rfl .nil) ?_; refine Zag ?_
  refine Zab (.inr rfl) (.tmp rfl .nil) (fun w hw => ?_)
  exact ⟨_, rfl, hw.cnt (by intro zz; first | exact Nat.le_refl _ | (simp only [Zh, Zd, Zi, cat, List.append_eq, List.append_assoc, List.cons_append, List.nil_append, List.append_nil]; omega) | (simp only [Zh, Zd, Zi, cat, List.append_eq, List.append_assoc, List.cons_append, List.nil_append, List.append_nil, StepL06V.segs]; omega)), rfl⟩
theorem texts_snoc {dg : Int → ByteArray} {l : List Err} {k : Nat} (hk : k < l.length) : (textsL dg (l.take (k + 1))).map oneS = (textsL dg (l.take k)).map oneS ++ [[.one (.string (l[k].text dg))]] := by
  simp only [textsL_map]
  rw [List.take_add_one, List.getElem?_eq_getElem hk, List.map_append, List.map_append]
  rfl
theorem sumS_take (dg : Int → ByteArray) (l : List Err) (k : Nat) : sumS (textsL dg (l.take k)) ≤ sumS (textsL dg l) := by
  induction l generalizing k with
  | nil => simp [textsL]
  | cons e r ih =>
    cases k with
    | zero => simp [textsL, sumS]
    | succ k => have := ih k; simp only [List.take_succ_cons, textsL, sumS]; omega
theorem jErr_ok (dg : Int → ByteArray) (M : Mem) (hM : M.dr = 0) (b0 : Nat) (l : List Err) (ws : List Value) (a1 : Option Addr) (c1 : Nat) (hb : M b0 = some (rowO [.one (.slice a1 ws.length c1)] 71)) (hs : SlM M a1 (ws.map (fun u => ([.one u] : Segs))) 1) (hlw : ws.length = l.length) (ht : ∀ k (h1 : k < l.length) (h2 : k < ws.length), TextOf dg M l[k] ws[k]) (hl : ws.length ≤ 10000) (hz : sumS (textsL dg l) ≤ 1000000) : Fs Tryd.prog 73 [.pointer (some ⟨b0, 0, none⟩)] M (fun v => v = .string ((Err.join l).text dg)) := by
  refine Zbb Tryd.func73 rfl Tryd.ntmps73 rfl ?_; intro H
  have n_s : (ws.map (fun u => ([.one u] : Segs))).length = ws.length := List.length_map ..
  have m_s : ws.length ≤ 9223372036854775807 := by omega
  refine Zj ?_; refine Za (l := [0]) rfl ?_; refine Ze rfl rfl rfl rfl ?_; refine Zf ?_; refine Zb ?_; refine Zj ?_; refine Za (l := [0]) rfl ?_; refine Ze rfl rfl rfl rfl ?_; refine Zf ?_; refine Zb ?_; refine Zj ?_; refine Zj ?_; refine Za (l := [0, 1, 2, 3, 4, 5]) rfl ?_; refine Zc rfl rfl rfl rfl ?_; refine X_nilCheck rfl rfl rfl rfl ?_
  first | refine Zad rfl rfl rfl F.foff71_0 rfl ?_ | refine Zv rfl rfl rfl (by first | exact ⟨_, _, rfl⟩ | assumption | exact SlM.plain (by assumption) (by first | (simp; done) | (simp; omega)) | exact RdS.plain (by assumption) (by first | (simp; done) | (simp; omega)) | exact OSl.plain (by assumption) (by first | (simp; done) | (simp; omega))) F.foff71_0 rfl ?_
  first | refine Zan rfl rfl rfl (by repeat first | exact List.Mem.head _ | refine List.Mem.tail _ ?_ | refine List.mem_append_right _ ?_) F.lay25 rfl rfl rfl ?_ | refine Zs rfl rfl rfl (by first | assumption | exact SlM.mono (by assumption) (by assumption)) (by first | exact Zg (by omega) | exact List.getElem?_eq_getElem (by omega) | exact rfl | exact Zg (by first | (simp; done) | (simp; omega))) F.lay25 rfl rfl rfl ?_ | refine Zr rfl rfl rfl (by assumption) (by first | exact Zg (by omega) | exact List.getElem?_eq_getElem (by omega) | exact rfl | exact Zg (by first | (simp; done) | (simp; omega))) F.lay25 rfl rfl rfl ?_ | refine Zp rfl rfl rfl (by first | assumption | exact Mem.get_of (by assumption) (by repeat first | assumption | refine Mem.le.trans (by assumption) ?_)) F.lay25 rfl rfl rfl ?_ | refine Zo rfl rfl rfl (by assumption) (by repeat first | exact Rem.here _ | exact Rem.two | apply Rem.skip | apply Rem.over) (by first | exact Zg (by omega) | exact List.getElem?_eq_getElem (by omega) | exact rfl | exact Zg (by first | (simp; done) | (simp; omega))) F.lay25 rfl rfl rfl ?_ | refine Zq rfl rfl rfl (by repeat first | exact List.Mem.head _ | refine List.Mem.tail _ ?_ | refine List.mem_append_right _ ?_) F.lay25 (by first | exact Zbj (by first | omega | decide) | exact Zax (by first | omega | decide)) rfl ?_
  refine Zas rfl rfl rfl rfl F.elem25 rfl ?_; refine Zc rfl rfl rfl rfl ?_; refine Zf ?_; refine Zb ?_; refine Zk (.cons (k := 11) rfl (.cons (k := 10) rfl (.cons (k := 9) rfl (.cons (k := 3) rfl (.cons (k := 2) rfl .nil))))) ?_; refine Zaa ?_; refine Zk (.cons (k := 11) rfl (.cons (k := 3) rfl (.cons (k := 10) rfl (.cons (k := 9) rfl (.cons (k := 2) rfl .nil))))) ?_; refine C_loopO (Hin := []) (.succ (.succ .zero)) (by repeat first | exact Rem.here _ | exact Rem.two | apply Rem.skip | apply Rem.over) (fun (k : Nat) M1 h1 z => ∃ v1, M1 = M ∧ z = [(11, .int .i64 (k : Int)), (3, v1)] ∧ k ≤ ws.length ∧ OSl 9 1 v1 h1 ((textsL dg (l.take k)).map oneS)) (fun k => ws.length - k) (0) (⟨_, rfl, rfl, by omega, OSl.nil⟩) ?_
  rintro k M1 h1 z hm1 ⟨v1, hM1, rfl, hk, ho⟩
  obtain rfl := hM1.symm
  obtain ⟨ad1, cp1, rfl⟩ := ho.valL
  have htl : (textsL dg (l.take k)).length = k := by rw [textsL_map, List.length_map, List.length_take]; omega
  have htm : ((textsL dg (l.take k)).map oneS).length = k := by rw [List.length_map, htl]
  have h3 : k = ws.length ∨ ∃ hk2 : k < ws.length, ∃ hkl : k < l.length, ∃ t1 u1 f1 r1, ws[k] = .iface t1 u1 ∧ Meth Tryd.prog t1 u1 "Error" f1 r1 ∧ okFn Tryd.prog f1 = true ∧ Fo Tryd.prog f1 [r1] M [] (fun M' x => M' = M ∧ x = .string (l[k].text dg)) := by
    rcases Nat.lt_or_ge k ws.length with hk2 | hk2
    · have hkl : k < l.length := by omega
      obtain ⟨t1, u1, f1, r1, h1, h2, h3, h4⟩ := ht k hkl hk2
      exact .inr ⟨hk2, hkl, t1, u1, f1, r1, h1, h2, h3, h4⟩
    · exact .inl (by omega)
  rcases h3 with hkk | ⟨hk2, hkl, t1, u1, f1, r1, hwk, hm1, hf1, hc1⟩
  · skip
    refine Zj ?_; refine Za (l := [0]) rfl ?_; refine Zao rfl rfl rfl rfl rfl rfl ?_; refine Zf ?_; refine Zb ?_; refine Zj ?_
    refine Zx rfl (fun hc1 => ?_) (fun hc1 => ?_)
    · first | replace hc1 := dT hc1 | replace hc1 := dF hc1 | replace hc1 := nT hc1 | replace hc1 := nF hc1 | skip
      first
      | (exfalso; omega)
      | (exfalso; simp [eqX] at hc1; done)
      | contradiction
      | skip
        refine Zu ?_; refine Zb ?_; refine Zj ?_; refine Zaa ?_; refine Zj ?_; refine Za (l := [0, 1, 2]) rfl ?_; refine Zn rfl rfl rfl rfl F.elem25 (by first | rfl | exact (Int.toNat_of_nonneg (by omega)).symm) (by first | omega | (simp; done) | (simp; omega)) (by first | exact ⟨_, _, rfl⟩ | assumption | exact SlM.plain (by assumption) (by first | (simp; done) | (simp; omega)) | exact RdS.plain (by assumption) (by first | (simp; done) | (simp; omega)) | exact OSl.plain (by assumption) (by first | (simp; done) | (simp; omega))) rfl ?_
        first | refine Zan rfl rfl rfl (by repeat first | exact List.Mem.head _ | refine List.Mem.tail _ ?_ | refine List.mem_append_right _ ?_) F.lay30 rfl rfl rfl ?_ | refine Zs rfl rfl rfl (by first | assumption | exact SlM.mono (by assumption) (by assumption)) (by first | exact Zg (by omega) | exact List.getElem?_eq_getElem (by omega) | exact rfl | exact Zg (by first | (simp; done) | (simp; omega))) F.lay30 rfl rfl rfl ?_ | refine Zr rfl rfl rfl (by assumption) (by first | exact Zg (by omega) | exact List.getElem?_eq_getElem (by omega) | exact rfl | exact Zg (by first | (simp; done) | (simp; omega))) F.lay30 rfl rfl rfl ?_ | refine Zp rfl rfl rfl (by first | assumption | exact Mem.get_of (by assumption) (by repeat first | assumption | refine Mem.le.trans (by assumption) ?_)) F.lay30 rfl rfl rfl ?_ | refine Zo rfl rfl rfl (by assumption) (by repeat first | exact Rem.here _ | exact Rem.two | apply Rem.skip | apply Rem.over) (by first | exact Zg (by omega) | exact List.getElem?_eq_getElem (by omega) | exact rfl | exact Zg (by first | (simp; done) | (simp; omega))) F.lay30 rfl rfl rfl ?_ | refine Zq rfl rfl rfl (by repeat first | exact List.Mem.head _ | refine List.Mem.tail _ ?_ | refine List.mem_append_right _ ?_) F.lay30 (by first | exact Zbj (by first | omega | decide) | exact Zax (by first | omega | decide)) rfl ?_
        skip
        refine Ze rfl rfl rfl rfl ?_; refine Zf ?_; refine Zb ?_; refine Za (l := [0, 1, 2, 3, 4, 5]) rfl ?_; refine Zc rfl rfl rfl rfl ?_; refine Zc rfl rfl rfl rfl ?_; refine X_invO rfl rfl rfl hm1 hf1 rfl hc1 (Rem.here _ : Rem [] _ _) rfl ?_
        rintro _ M1 _ ⟨hM1, rfl⟩; obtain rfl := hM1.symm
        refine Zal rfl rfl F.elem40 F.zero9 rfl rfl (.cons rfl (by constructor) .nil) rfl rfl (by simp only [List.map_cons, List.map_nil] <;> rfl) rfl ?_; intro b2 hob3
        refine Zbp (m := 1000000) rfl rfl rfl rfl rfl F.elem40 F.zero9 (by first | rfl | exact Zbm rfl) rfl (by first | assumption | exact OSl.nil) (by repeat first | exact Rem.here _ | exact Rem.two | apply Rem.skip | apply Rem.over) (Src.own hob3.lens (by first | exact StepL06V.flat1 _ | exact StepL06V.flat1 ⟨_, _, _, _⟩ | exact TrR.flat1 _ | (refine Zar ?_; (repeat (first | exact Zap | refine Zbi ?_ | (refine Zaf ?_ ?_; rfl))); done) | (refine Zar ?_; exact PeerV.flat _) | (simp [rowsCells, Segs.cells, Seg.cells, Value.oneCell']; done)) rfl (by repeat first | exact List.Mem.head _ | refine List.Mem.tail _ ?_ | refine List.mem_append_right _ ?_)) (by first | omega | (simp; done) | (simp; omega)) (by decide) rfl ?_; intro v6 hs5 ho4; obtain ⟨adv6, cpv6, rfl⟩ := ho4.val
        refine Ze rfl rfl rfl rfl ?_; refine Zf ?_; refine Zbk ?_; refine Zb ?_; refine Za (l := [0, 1]) rfl ?_; refine Zai rfl rfl rfl rfl rfl (by first | exact Zt (by decide) (by omega) | exact Zz (by decide) (by omega) | exact Zae (by decide) (by omega) | exact Zm (by decide) (by omega) | exact Zah _ | exact Zay _ | exact Zak _ | exact rfl) rfl ?_; refine Zc rfl rfl rfl rfl ?_; refine Zf ?_; refine Zbg (a' := [(11, _), (3, _)]) (k + 1) (hs5) (.cons (k := 11) rfl (.cons (k := 3) rfl (.cons (k := 10) rfl (.cons (k := 9) rfl (.cons (k := 2) rfl (.nil)))))) (by first | exact Mem.le.refl _ | assumption | (repeat first | assumption | refine Mem.le.trans (by assumption) ?_)) (fun w hw => by first | exact hw | exact hw.cnt (by intro zz; first | exact Nat.le_refl _ | (simp only [Zh, Zd, Zi, cat, List.append_eq, List.append_assoc, List.cons_append, List.nil_append, List.append_nil]; omega) | (simp only [Zh, Zd, Zi, cat, List.append_eq, List.append_assoc, List.cons_append, List.nil_append, List.append_nil, StepL06V.segs]; omega))) ?_ ?_
        · refine ⟨_, rfl, rfl, by omega, ?_⟩
          rw [texts_snoc hkl]
          exact ho4
        · omega
    · first | replace hc1 := dT hc1 | replace hc1 := dF hc1 | replace hc1 := nT hc1 | replace hc1 := nF hc1 | skip
      first
      | (exfalso; omega)
      | (exfalso; simp [eqX] at hc1; done)
      | contradiction
      | skip
        refine Zbt ?_; refine Zbd ?_; refine Zbd ?_; refine Zca ?_; refine Zb ?_; refine Zk (.cons (k := 3) rfl (.cons (k := 2) rfl .nil)) ?_; refine Zj ?_; refine Za (l := [0, 1, 2]) rfl ?_; refine Zc rfl rfl rfl rfl ?_; refine X_fo rfl rfl F.ok75 rfl (Join_at M _ 9 _ (textsL dg (l.take k)) hM ho (by omega) (by have h9 := sumS_take dg l k; omega)) (by repeat first | exact Rem.here _ | exact Rem.two | apply Rem.skip | apply Rem.over) (Zbh rfl) ?_
        rintro _ M2 _ ⟨hM2, rfl⟩; obtain rfl := hM2.symm
        refine Ze rfl rfl rfl rfl ?_; refine Zf ?_; refine Zb ?_; refine Zk (.cons (k := 2) rfl .nil) ?_; refine Zag ?_
        refine Zab (.inr rfl) (.tmp rfl .nil) (fun w hw => ?_)
        obtain rfl : k = ws.length := by omega
        rw [hlw, List.take_length]
        exact ⟨_, rfl, hw.cnt (by intro zz; first | exact Nat.le_refl _ | (simp only [Zh, Zd, Zi, cat, List.append_eq, List.append_assoc, List.cons_append, List.nil_append, List.append_nil]; omega) | (simp only [Zh, Zd, Zi, cat, List.append_eq, List.append_assoc, List.cons_append, List.nil_append, List.append_nil, StepL06V.segs]; omega)), rfl⟩
  · skip
    refine Zj ?_; refine Za (l := [0]) rfl ?_; refine Zao rfl rfl rfl rfl rfl rfl ?_; refine Zf ?_; refine Zb ?_; refine Zj ?_
    refine Zx rfl (fun hc7 => ?_) (fun hc7 => ?_)
    · first | replace hc7 := dT hc7 | replace hc7 := dF hc7 | replace hc7 := nT hc7 | replace hc7 := nF hc7 | skip
      first
      | (exfalso; omega)
      | (exfalso; simp [eqX] at hc7; done)
      | contradiction
      | skip
        refine Zu ?_; refine Zb ?_; refine Zj ?_; refine Zaa ?_; refine Zj ?_; refine Za (l := [0, 1, 2]) rfl ?_; refine Zn rfl rfl rfl rfl F.elem25 (by first | rfl | exact (Int.toNat_of_nonneg (by omega)).symm) (by first | omega | (simp; done) | (simp; omega)) (by first | exact ⟨_, _, rfl⟩ | assumption | exact SlM.plain (by assumption) (by first | (simp; done) | (simp; omega)) | exact RdS.plain (by assumption) (by first | (simp; done) | (simp; omega)) | exact OSl.plain (by assumption) (by first | (simp; done) | (simp; omega))) rfl ?_
        first | refine Zan rfl rfl rfl (by repeat first | exact List.Mem.head _ | refine List.Mem.tail _ ?_ | refine List.mem_append_right _ ?_) F.lay30 rfl rfl rfl ?_ | refine Zs rfl rfl rfl (by first | assumption | exact SlM.mono (by assumption) (by assumption)) (by first | exact Zg (by omega) | exact List.getElem?_eq_getElem (by omega) | exact rfl | exact Zg (by first | (simp; done) | (simp; omega))) F.lay30 rfl rfl rfl ?_ | refine Zr rfl rfl rfl (by assumption) (by first | exact Zg (by omega) | exact List.getElem?_eq_getElem (by omega) | exact rfl | exact Zg (by first | (simp; done) | (simp; omega))) F.lay30 rfl rfl rfl ?_ | refine Zp rfl rfl rfl (by first | assumption | exact Mem.get_of (by assumption) (by repeat first | assumption | refine Mem.le.trans (by assumption) ?_)) F.lay30 rfl rfl rfl ?_ | refine Zo rfl rfl rfl (by assumption) (by repeat first | exact Rem.here _ | exact Rem.two | apply Rem.skip | apply Rem.over) (by first | exact Zg (by omega) | exact List.getElem?_eq_getElem (by omega) | exact rfl | exact Zg (by first | (simp; done) | (simp; omega))) F.lay30 rfl rfl rfl ?_ | refine Zq rfl rfl rfl (by repeat first | exact List.Mem.head _ | refine List.Mem.tail _ ?_ | refine List.mem_append_right _ ?_) F.lay30 (by first | exact Zbj (by first | omega | decide) | exact Zax (by first | omega | decide)) rfl ?_
        refine Zbf 14 rfl hwk ?_; refine Ze rfl rfl rfl rfl ?_; refine Zf ?_; refine Zb ?_; refine Za (l := [0, 1, 2, 3, 4, 5]) rfl ?_; refine Zc rfl rfl rfl rfl ?_; refine Zc rfl rfl rfl rfl ?_; refine X_invO rfl rfl rfl hm1 hf1 rfl hc1 (Rem.here _ : Rem [] _ _) rfl ?_
        rintro _ M1 _ ⟨hM1, rfl⟩; obtain rfl := hM1.symm
        refine Zal rfl rfl F.elem40 F.zero9 rfl rfl (.cons rfl (by constructor) .nil) rfl rfl (by simp only [List.map_cons, List.map_nil] <;> rfl) rfl ?_; intro b8 hob9
        refine Zbp (m := 1000000) rfl rfl rfl rfl rfl F.elem40 F.zero9 (by first | rfl | exact Zbm rfl) rfl (by first | assumption | exact OSl.nil) (by repeat first | exact Rem.here _ | exact Rem.two | apply Rem.skip | apply Rem.over) (Src.own hob9.lens (by first | exact StepL06V.flat1 _ | exact StepL06V.flat1 ⟨_, _, _, _⟩ | exact TrR.flat1 _ | (refine Zar ?_; (repeat (first | exact Zap | refine Zbi ?_ | (refine Zaf ?_ ?_; rfl))); done) | (refine Zar ?_; exact PeerV.flat _) | (simp [rowsCells, Segs.cells, Seg.cells, Value.oneCell']; done)) rfl (by repeat first | exact List.Mem.head _ | refine List.Mem.tail _ ?_ | refine List.mem_append_right _ ?_)) (by first | omega | (simp; done) | (simp; omega)) (by decide) rfl ?_; intro v12 hs11 ho10; obtain ⟨adv12, cpv12, rfl⟩ := ho10.val
        refine Ze rfl rfl rfl rfl ?_; refine Zf ?_; refine Zbk ?_; refine Zb ?_; refine Za (l := [0, 1]) rfl ?_; refine Zai rfl rfl rfl rfl rfl (by first | exact Zt (by decide) (by omega) | exact Zz (by decide) (by omega) | exact Zae (by decide) (by omega) | exact Zm (by decide) (by omega) | exact Zah _ | exact Zay _ | exact Zak _ | exact rfl) rfl ?_; refine Zc rfl rfl rfl rfl ?_; refine Zf ?_; refine Zbg (a' := [(11, _), (3, _)]) (k + 1) (hs11) (.cons (k := 11) rfl (.cons (k := 3) rfl (.cons (k := 10) rfl (.cons (k := 9) rfl (.cons (k := 2) rfl (.nil)))))) (by first | exact Mem.le.refl _ | assumption | (repeat first | assumption | refine Mem.le.trans (by assumption) ?_)) (fun w hw => by first | exact hw | exact hw.cnt (by intro zz; first | exact Nat.le_refl _ | (simp only [Zh, Zd, Zi, cat, List.append_eq, List.append_assoc, List.cons_append, List.nil_append, List.append_nil]; omega) | (simp only [Zh, Zd, Zi, cat, List.append_eq, List.append_assoc, List.cons_append, List.nil_append, List.append_nil, StepL06V.segs]; omega))) ?_ ?_
        · refine ⟨_, rfl, rfl, by omega, ?_⟩
          rw [texts_snoc hkl]
          exact ho10
        · omega
    · first | replace hc7 := dT hc7 | replace hc7 := dF hc7 | replace hc7 := nT hc7 | replace hc7 := nF hc7 | skip
      first
      | (exfalso; omega)
      | (exfalso; simp [eqX] at hc7; done)
      | contradiction
      | skip
        refine Zbt ?_; refine Zbd ?_; refine Zbd ?_; refine Zca ?_; refine Zb ?_; refine Zk (.cons (k := 3) rfl (.cons (k := 2) rfl .nil)) ?_; refine Zj ?_; refine Za (l := [0, 1, 2]) rfl ?_; refine Zc rfl rfl rfl rfl ?_; refine X_fo rfl rfl F.ok75 rfl (Join_at M _ 9 _ (textsL dg (l.take k)) hM ho (by omega) (by have h9 := sumS_take dg l k; omega)) (by repeat first | exact Rem.here _ | exact Rem.two | apply Rem.skip | apply Rem.over) (Zbh rfl) ?_
        rintro _ M2 _ ⟨hM2, rfl⟩; obtain rfl := hM2.symm
        refine Ze rfl rfl rfl rfl ?_; refine Zf ?_; refine Zb ?_; refine Zk (.cons (k := 2) rfl .nil) ?_; refine Zag ?_
        refine Zab (.inr rfl) (.tmp rfl .nil) (fun w hw => ?_)
        obtain rfl : k = ws.length := by omega
        rw [hlw, List.take_length]
        exact ⟨_, rfl, hw.cnt (by intro zz; first | exact Nat.le_refl _ | (simp only [Zh, Zd, Zi, cat, List.append_eq, List.append_assoc, List.cons_append, List.nil_append, List.append_nil]; omega) | (simp only [Zh, Zd, Zi, cat, List.append_eq, List.append_assoc, List.cons_append, List.nil_append, List.append_nil, StepL06V.segs]; omega)), rfl⟩
theorem text_aux (dg : Int → ByteArray) (hF : ShortF dg) (M : Mem) (hM : M.dr = 0) : ∀ (n : Nat) (e : Err) (v : Value), e.big ≤ n → ErrV M e v → (∀ c ∈ e.codes, okC c ∧ ItoaAt dg M c) → e.wt ≤ 10000 → TextOf dg M e v
  | 0, e, v, hn, _, _, _ => by cases e <;> simp [Err.big] at hn
  | n + 1, .code c, v, hn, hv, hk, hz => by
    obtain rfl : v = .iface 60 (aggV [.one (.int .i64 c)]) := hv
    exact ⟨_, _, _, _, rfl, F.meth60_Error _, F.ok56, foOfFs (cErr_ok dg hF M c (hk c (by simp [Err.codes])).2 (hk c (by simp [Err.codes])).1)⟩
  | n + 1, .wrap op e, v, hn, hv, hk, hz => by
    obtain ⟨b, w, rfl, hb, hw⟩ := hv
    have hk2 : ∀ c ∈ e.codes, okC c ∧ ItoaAt dg M c := fun c hc => hk c (by simpa [Err.codes] using hc)
    have h1 := text_size hF e (fun c hc => (hk2 c hc).1)
    simp only [Err.wt] at hz
    have h2 := text_aux dg hF M hM n e w (by simp only [Err.big] at hn; omega) hw hk2 (by omega)
    exact ⟨_, _, _, _, rfl, F.meth66_Error _, F.ok71, foOfFs (wErr_ok dg M b op e w hb h2 (by omega))⟩
  | n + 1, .join l, v, hn, hv, hk, hz => by
    obtain ⟨_, b, ws, a, c, rfl, hb, hs, _, hl⟩ := hv
    have hlw := hl.len
    simp only [Err.wt] at hz
    have h5 := bigL_len l
    have h6 := bigL_wt l
    simp only [Err.big] at hn
    have h7 := texts_size hF l (fun c hc => (hk c (by simpa [Err.codes] using hc)).1)
    refine ⟨_, _, _, _, rfl, F.meth69_Error _, F.ok73, foOfFs (jErr_ok dg M hM b l ws a c hb hs hlw (fun k h1 h2 => ?_) (by omega) (by omega))⟩
    have h8 := big_mem h1
    have h9 := wtL_at h1
    exact text_aux dg hF M hM n l[k] ws[k] (by omega) (hl.at k h1 h2) (fun c hc => hk c (by simp only [Err.codes]; exact codes_at h1 hc)) (by omega)
theorem bText_nil (M : Mem) : Fs Tryd.prog 18 [.nilIface] M (fun v => v = .string ⟨#[]⟩) := by
  refine Zbb Tryd.func18 rfl Tryd.ntmps18 rfl ?_; intro H
  refine Zj ?_; refine Za (l := [0]) rfl ?_; refine Ze rfl rfl rfl rfl ?_; refine Zf ?_; refine Zb ?_; refine Zj ?_; refine Zj ?_; refine Za (l := [0, 1]) rfl ?_; refine Zc rfl rfl rfl rfl ?_; refine Zby rfl rfl rfl rfl Tryd.underlying30 rfl rfl ?_; refine Zf ?_; refine Zb ?_; refine Zk (.cons (k := 4) rfl (.cons (k := 2) rfl (.cons (k := 0) rfl .nil))) ?_; refine Zcc rfl ?_; refine Zj ?_; refine Za (l := [0]) rfl ?_; refine Ze rfl rfl rfl rfl ?_; refine Zf ?_; refine Zb ?_; refine Zk (.cons (k := 2) rfl (.cons (k := 0) rfl .nil)) ?_; refine Zag ?_; refine Zam ?_
  refine Zab (.inr rfl) (.tmp rfl .nil) (fun w hw => ?_)
  exact ⟨_, rfl, hw.cnt (by intro zz; first | exact Nat.le_refl _ | (simp only [Zh, Zd, Zi, cat, List.append_eq, List.append_assoc, List.cons_append, List.nil_append, List.append_nil]; omega) | (simp only [Zh, Zd, Zi, cat, List.append_eq, List.append_assoc, List.cons_append, List.nil_append, List.append_nil, StepL06V.segs]; omega)), rfl⟩
theorem bText_some (dg : Int → ByteArray) (M : Mem) (e : Err) (v : Value) (ht : TextOf dg M e v) : Fs Tryd.prog 18 [v] M (fun v => v = .string (e.text dg)) := by
  obtain ⟨t1, u1, f1, r1, rfl, hm1, hf1, hc1⟩ := ht
  refine Zbb Tryd.func18 rfl Tryd.ntmps18 rfl ?_; intro H
  refine Zj ?_; refine Za (l := [0]) rfl ?_; refine Ze rfl rfl rfl rfl ?_; refine Zf ?_; refine Zb ?_; refine Zj ?_; refine Zj ?_; refine Za (l := [0, 1]) rfl ?_; refine Zc rfl rfl rfl rfl ?_; refine Zby rfl rfl rfl rfl Tryd.underlying30 rfl rfl ?_; refine Zf ?_; refine Zb ?_; refine Zk (.cons (k := 4) rfl (.cons (k := 2) rfl (.cons (k := 0) rfl .nil))) ?_; refine Zbe rfl ?_; refine Zu ?_; refine Zb ?_; refine Zk (.cons (k := 2) rfl (.cons (k := 0) rfl .nil)) ?_; refine Zj ?_; refine Za (l := [0, 1, 2]) rfl ?_; refine Zc rfl rfl rfl rfl ?_; refine X_invO rfl rfl rfl hm1 hf1 rfl hc1 (Rem.here _ : Rem [] _ _) rfl ?_
  rintro _ M1 _ ⟨hM1, rfl⟩; obtain rfl := hM1.symm
  refine Ze rfl rfl rfl rfl ?_; refine Zf ?_; refine Zb ?_; refine Zk (.cons (k := 2) rfl .nil) ?_; refine Zag ?_
  refine Zab (.inr rfl) (.tmp rfl .nil) (fun w hw => ?_)
  exact ⟨_, rfl, hw.cnt (by intro zz; first | exact Nat.le_refl _ | (simp only [Zh, Zd, Zi, cat, List.append_eq, List.append_assoc, List.cons_append, List.nil_append, List.append_nil]; omega) | (simp only [Zh, Zd, Zi, cat, List.append_eq, List.append_assoc, List.cons_append, List.nil_append, List.append_nil, StepL06V.segs]; omega)), rfl⟩
theorem bText_o (dg : Int → ByteArray) (hF : ShortF dg) (M : Mem) (hM : M.dr = 0) (o : Option Err) (v : Value) (ho : OE M o v) (hk : ∀ c ∈ codesO o, okC c ∧ ItoaAt dg M c) (hz : wtO o ≤ 10000) : Fs Tryd.prog 18 [v] M (fun v => v = .string (textO dg o)) := by
  cases o with
  | none => obtain rfl : v = .nilIface := ho; exact bText_nil M
  | some e => exact bText_some dg M e v (text_aux dg hF M hM _ e v (Nat.le_refl _) ho hk hz)
end Go.Proofs.YtbeahcfghjiogaaDoor
namespace Go.Proofs.YtbeahcfghjiogaaDoor
open Go.Esp
theorem F.tac60 (v : Value) (w : World) : (Instr.typeAssert (.iface 60 v) 30 66 true).run Tryd.prog w = .ok (.tuple #[.pointer none, .bool false]) w := by kernel_rfl
theorem F.tac66 (v : Value) (w : World) : (Instr.typeAssert (.iface 66 v) 30 66 true).run Tryd.prog w = .ok (.tuple #[v, .bool true]) w := by kernel_rfl
theorem F.tac69 (v : Value) (w : World) : (Instr.typeAssert (.iface 69 v) 30 66 true).run Tryd.prog w = .ok (.tuple #[.pointer none, .bool false]) w := by kernel_rfl
theorem F.tacN (w : World) : (Instr.typeAssert .nilIface 30 66 true).run Tryd.prog w = .ok (.tuple #[.pointer none, .bool false]) w := by kernel_rfl
theorem bTrail_nil (M : Mem) : Esp.Fn Tryd.prog 16 [.nilIface] M (fun M' v => ∃ s9 : Sl ByteArray, v = s9.val ∧ s9.l = [] ∧ SlK M' oneS 1 s9) := by
  refine fn_enter Tryd.func16 rfl Tryd.ntmps16 rfl ?_; intro H
  refine Zj ?_; refine Za (l := [0]) rfl ?_; refine Ze rfl rfl rfl rfl ?_; refine Zf ?_; refine Zb ?_; refine Zj ?_; refine Za (l := [0]) rfl ?_; refine Ze rfl rfl rfl rfl ?_; refine Zf ?_; refine Zb ?_; refine Zaa ?_; refine Zk (.cons (k := 0) rfl (.cons (k := 3) rfl (.cons (k := 2) rfl .nil))) ?_; refine C_loopO (Hin := []) (.succ (.succ .zero)) (by repeat first | exact Rem.here _ | exact Rem.two | apply Rem.skip | apply Rem.over) (fun (k : Nat) M1 h1 z => M1 = M ∧ h1 = [] ∧ z = [(0, .nilIface), (3, .slice none 0 0)]) (fun k => k) (0) (⟨rfl, rfl, rfl⟩) ?_
  rintro k M1 h1 z hm1 ⟨hM1, rfl, rfl⟩
  obtain rfl := hM1.symm
  refine Zaa ?_; refine Zj ?_; refine Za (l := [0]) rfl ?_; refine Zc rfl rfl rfl rfl ?_; refine Zf ?_; refine Zb ?_; refine Zaa ?_; refine Zj ?_; refine Za (l := [0, 1, 2]) rfl ?_; refine X_ta rfl rfl rfl (fun w9 => F.tacN w9) rfl ?_; refine Zw rfl rfl rfl rfl rfl ?_; refine Zw rfl rfl rfl rfl rfl ?_; refine Zf ?_; refine Zb ?_; refine Zbe rfl ?_; refine Zj ?_; refine Za (l := [0]) rfl ?_; refine Ze rfl rfl rfl rfl ?_; refine Zf ?_; refine Zb ?_; refine Zk (.cons (k := 10) rfl (.cons (k := 9) rfl (.cons (k := 8) rfl (.cons (k := 6) rfl (.cons (k := 0) rfl (.cons (k := 3) rfl (.cons (k := 2) rfl .nil))))))) ?_; refine Zj ?_; refine Za (l := [0, 1]) rfl ?_; refine Zc rfl rfl rfl rfl ?_; refine Ze rfl rfl rfl rfl ?_; refine Zf ?_; refine Zb ?_; refine Zag ?_; refine Zaw ?_
  refine Zaw ?_; refine Zam ?_; refine Zaw ?_
  refine Zab (.inr rfl) (.tmp rfl .nil) (fun w hw => ?_)
  exact ⟨_, M, rfl, Mem.le.refl M, hw.cnt (by intro zz; first | exact Nat.le_refl _ | (simp only [Zh, Zd, Zi, cat, List.append_eq, List.append_assoc, List.cons_append, List.nil_append, List.append_nil]; omega) | (simp only [Zh, Zd, Zi, cat, List.append_eq, List.append_assoc, List.cons_append, List.nil_append, List.append_nil, StepL06V.segs]; omega)), ⟨none, 0, []⟩, rfl, rfl, SlK.nil⟩
theorem bTrail_some (M : Mem) (e : Err) (v : Value) (he : ErrV M e v) (hz : e.big ≤ 10000) : Esp.Fn Tryd.prog 16 [v] M (fun M' v => ∃ s9 : Sl ByteArray, v = s9.val ∧ s9.l = e.trail ∧ SlK M' oneS 1 s9) := by
  refine fn_enter Tryd.func16 rfl Tryd.ntmps16 rfl ?_; intro H
  refine Zj ?_; refine Za (l := [0]) rfl ?_; refine Ze rfl rfl rfl rfl ?_; refine Zf ?_; refine Zb ?_; refine Zj ?_; refine Za (l := [0]) rfl ?_; refine Ze rfl rfl rfl rfl ?_; refine Zf ?_; refine Zb ?_; refine Zaa ?_; refine Zk (.cons (k := 0) rfl (.cons (k := 3) rfl (.cons (k := 2) rfl .nil))) ?_; refine C_loopO (Hin := []) (.succ (.succ .zero)) (by repeat first | exact Rem.here _ | exact Rem.two | apply Rem.skip | apply Rem.over) (fun (e1 : Err) M1 h1 z => ∃ v1 v3 pre, M1 = M ∧ z = [(0, v1), (3, v3)] ∧ ErrV M e1 v1 ∧ OSl 9 1 v3 h1 ((pre : List ByteArray).map oneS) ∧ pre ++ e1.trail = e.trail) (Err.big) (e) (⟨v, _, [], rfl, rfl, he, OSl.nil, rfl⟩) ?_
  rintro e1 M1 h1 z hm1 ⟨v1, v3, pre, hM1, rfl, hv, ho, htr⟩
  obtain rfl := hM1.symm
  obtain ⟨ad1, cp1, rfl⟩ := ho.valL
  have hpl : pre.length ≤ 10000 := by have := congrArg List.length htr; have := trail_big e; simp only [List.length_append] at *; omega
  rcases e1 with c | ⟨op1, e2⟩ | l1
  · obtain rfl : v1 = .iface 60 (aggV [.one (.int .i64 c)]) := hv
    refine Zaa ?_; refine Zj ?_; refine Za (l := [0]) rfl ?_; refine Zc rfl rfl rfl rfl ?_; refine Zf ?_; refine Zb ?_; refine Zaa ?_; refine Zj ?_; refine Za (l := [0, 1, 2]) rfl ?_; refine X_ta rfl rfl rfl (fun w9 => F.tac60 _ w9) rfl ?_; refine Zw rfl rfl rfl rfl rfl ?_; refine Zw rfl rfl rfl rfl rfl ?_; refine Zf ?_; refine Zb ?_; refine Zbe rfl ?_; refine Zj ?_; refine Za (l := [0]) rfl ?_; refine Ze rfl rfl rfl rfl ?_; refine Zf ?_; refine Zb ?_; refine Zk (.cons (k := 10) rfl (.cons (k := 9) rfl (.cons (k := 8) rfl (.cons (k := 6) rfl (.cons (k := 0) rfl (.cons (k := 3) rfl (.cons (k := 2) rfl .nil))))))) ?_; refine Zj ?_; refine Za (l := [0, 1]) rfl ?_; refine Zc rfl rfl rfl rfl ?_; refine Ze rfl rfl rfl rfl ?_; refine Zf ?_; refine Zb ?_; refine Zag ?_; refine Zaw ?_
    refine Zaw ?_; refine Zam ?_; refine Zaw ?_
    refine Zab (.inr rfl) (.tmp rfl .nil) (fun w hw => ?_)
    obtain ⟨M9, g1, g2, g3⟩ := ho.frz (H := H) (hw.cnt (by intro zz; first | exact Nat.le_refl _ | (simp only [Zh, Zd, Zi, cat, List.append_eq, List.append_assoc, List.cons_append, List.nil_append, List.append_nil]; omega) | (simp only [Zh, Zd, Zi, cat, List.append_eq, List.append_assoc, List.cons_append, List.nil_append, List.append_nil, StepL06V.segs]; omega)))
    refine ⟨_, M9, rfl, g1, g2, _, rfl, ?_, g3⟩
    simpa [Err.trail] using htr
  · obtain ⟨b1, w1, rfl, hb1, hw1⟩ := hv
    obtain ⟨t1, u1, rfl⟩ := hw1.iface
    refine Zaa ?_; refine Zj ?_; refine Za (l := [0]) rfl ?_; refine Zc rfl rfl rfl rfl ?_; refine Zf ?_; refine Zb ?_; refine Zaa ?_; refine Zj ?_; refine Za (l := [0, 1, 2]) rfl ?_; refine X_ta rfl rfl rfl (fun w9 => F.tac66 _ w9) rfl ?_; refine Zw rfl rfl rfl rfl rfl ?_; refine Zw rfl rfl rfl rfl rfl ?_; refine Zf ?_; refine Zb ?_; refine Zcc rfl ?_; refine Zj ?_; refine Za (l := [0]) rfl ?_; refine Ze rfl rfl rfl rfl ?_; refine Zf ?_; refine Zb ?_; refine Zj ?_; refine Za (l := [0, 1, 2, 3, 4, 5, 6, 7]) rfl ?_; refine Zc rfl rfl rfl rfl ?_; refine Zc rfl rfl rfl rfl ?_; refine X_nilCheck rfl rfl rfl rfl ?_
    first | refine Zad rfl rfl rfl F.foff68_0 rfl ?_ | refine Zv rfl rfl rfl (by first | exact ⟨_, _, rfl⟩ | assumption | exact SlM.plain (by assumption) (by first | (simp; done) | (simp; omega)) | exact RdS.plain (by assumption) (by first | (simp; done) | (simp; omega)) | exact OSl.plain (by assumption) (by first | (simp; done) | (simp; omega))) F.foff68_0 rfl ?_
    first | refine Zan rfl rfl rfl (by repeat first | exact List.Mem.head _ | refine List.Mem.tail _ ?_ | refine List.mem_append_right _ ?_) F.lay9 rfl rfl rfl ?_ | refine Zs rfl rfl rfl (by first | assumption | exact SlM.mono (by assumption) (by assumption)) (by first | exact Zg (by omega) | exact List.getElem?_eq_getElem (by omega) | exact rfl | exact Zg (by first | (simp; done) | (simp; omega))) F.lay9 rfl rfl rfl ?_ | refine Zr rfl rfl rfl (by assumption) (by first | exact Zg (by omega) | exact List.getElem?_eq_getElem (by omega) | exact rfl | exact Zg (by first | (simp; done) | (simp; omega))) F.lay9 rfl rfl rfl ?_ | refine Zp rfl rfl rfl (by first | assumption | exact Mem.get_of (by assumption) (by repeat first | assumption | refine Mem.le.trans (by assumption) ?_)) F.lay9 rfl rfl rfl ?_ | refine Zo rfl rfl rfl (by assumption) (by repeat first | exact Rem.here _ | exact Rem.two | apply Rem.skip | apply Rem.over) (by first | exact Zg (by omega) | exact List.getElem?_eq_getElem (by omega) | exact rfl | exact Zg (by first | (simp; done) | (simp; omega))) F.lay9 rfl rfl rfl ?_ | refine Zq rfl rfl rfl (by repeat first | exact List.Mem.head _ | refine List.Mem.tail _ ?_ | refine List.mem_append_right _ ?_) F.lay9 (by first | exact Zbj (by first | omega | decide) | exact Zax (by first | omega | decide)) rfl ?_
    refine Zal rfl rfl F.elem40 F.zero9 rfl rfl (.cons rfl (by constructor) .nil) rfl rfl (by simp only [List.map_cons, List.map_nil] <;> rfl) rfl ?_; intro b1 hob2
    refine Zbp (m := 1000000) rfl rfl rfl rfl rfl F.elem40 F.zero9 (by first | rfl | exact Zbm rfl) rfl (by first | assumption | exact OSl.nil) (by repeat first | exact Rem.here _ | exact Rem.two | apply Rem.skip | apply Rem.over) (Src.own hob2.lens (by first | exact StepL06V.flat1 _ | exact StepL06V.flat1 ⟨_, _, _, _⟩ | exact TrR.flat1 _ | (refine Zar ?_; (repeat (first | exact Zap | refine Zbi ?_ | (refine Zaf ?_ ?_; rfl))); done) | (refine Zar ?_; exact PeerV.flat _) | (simp [rowsCells, Segs.cells, Seg.cells, Value.oneCell']; done)) rfl (by repeat first | exact List.Mem.head _ | refine List.Mem.tail _ ?_ | refine List.mem_append_right _ ?_)) (by first | omega | (simp; done) | (simp; omega)) (by decide) rfl ?_; intro v5 hs4 ho3; obtain ⟨adv5, cpv5, rfl⟩ := ho3.val
    refine Ze rfl rfl rfl rfl ?_; refine Zf ?_; refine Zb ?_; refine Za (l := [0, 1, 2, 3, 4]) rfl ?_; refine Zc rfl rfl rfl rfl ?_; refine X_nilCheck rfl rfl rfl rfl ?_
    first | refine Zad rfl rfl rfl F.foff68_1 rfl ?_ | refine Zv rfl rfl rfl (by first | exact ⟨_, _, rfl⟩ | assumption | exact SlM.plain (by assumption) (by first | (simp; done) | (simp; omega)) | exact RdS.plain (by assumption) (by first | (simp; done) | (simp; omega)) | exact OSl.plain (by assumption) (by first | (simp; done) | (simp; omega))) F.foff68_1 rfl ?_
    first | refine Zan rfl rfl rfl (by repeat first | exact List.Mem.head _ | refine List.Mem.tail _ ?_ | refine List.mem_append_right _ ?_) F.lay30 rfl rfl rfl ?_ | refine Zs rfl rfl rfl (by first | assumption | exact SlM.mono (by assumption) (by assumption)) (by first | exact Zg (by omega) | exact List.getElem?_eq_getElem (by omega) | exact rfl | exact Zg (by first | (simp; done) | (simp; omega))) F.lay30 rfl rfl rfl ?_ | refine Zr rfl rfl rfl (by assumption) (by first | exact Zg (by omega) | exact List.getElem?_eq_getElem (by omega) | exact rfl | exact Zg (by first | (simp; done) | (simp; omega))) F.lay30 rfl rfl rfl ?_ | refine Zp rfl rfl rfl (by first | assumption | exact Mem.get_of (by assumption) (by repeat first | assumption | refine Mem.le.trans (by assumption) ?_)) F.lay30 rfl rfl rfl ?_ | refine Zo rfl rfl rfl (by assumption) (by repeat first | exact Rem.here _ | exact Rem.two | apply Rem.skip | apply Rem.over) (by first | exact Zg (by omega) | exact List.getElem?_eq_getElem (by omega) | exact rfl | exact Zg (by first | (simp; done) | (simp; omega))) F.lay30 rfl rfl rfl ?_ | refine Zq rfl rfl rfl (by repeat first | exact List.Mem.head _ | refine List.Mem.tail _ ?_ | refine List.mem_append_right _ ?_) F.lay30 (by first | exact Zbj (by first | omega | decide) | exact Zax (by first | omega | decide)) rfl ?_
    refine Ze rfl rfl rfl rfl ?_; refine Zf ?_; refine Zbk ?_; refine Zbk ?_; refine Zbg (a' := [(0, _), (3, _)]) (e2) (hs4) (.cons (k := 0) rfl (.cons (k := 3) rfl (.cons (k := 2) rfl (.nil)))) (by first | exact Mem.le.refl _ | assumption | (repeat first | assumption | refine Mem.le.trans (by assumption) ?_)) (fun w hw => by first | exact hw | exact hw.cnt (by intro zz; first | exact Nat.le_refl _ | (simp only [Zh, Zd, Zi, cat, List.append_eq, List.append_assoc, List.cons_append, List.nil_append, List.append_nil]; omega) | (simp only [Zh, Zd, Zi, cat, List.append_eq, List.append_assoc, List.cons_append, List.nil_append, List.append_nil, StepL06V.segs]; omega))) ?_ ?_
    · refine ⟨_, _, pre ++ [op1], rfl, rfl, hw1, ?_, ?_⟩
      · rw [List.map_append]; exact ho3
      · rw [← htr]; simp [Err.trail]
    · simp only [Err.big]; omega
  · obtain ⟨hne, b1, ws, a1, c1, rfl, hb1, hs1, hl1, hws⟩ := hv
    refine Zaa ?_; refine Zj ?_; refine Za (l := [0]) rfl ?_; refine Zc rfl rfl rfl rfl ?_; refine Zf ?_; refine Zb ?_; refine Zaa ?_; refine Zj ?_; refine Za (l := [0, 1, 2]) rfl ?_; refine X_ta rfl rfl rfl (fun w9 => F.tac69 _ w9) rfl ?_; refine Zw rfl rfl rfl rfl rfl ?_; refine Zw rfl rfl rfl rfl rfl ?_; refine Zf ?_; refine Zb ?_; refine Zbe rfl ?_; refine Zj ?_; refine Za (l := [0]) rfl ?_; refine Ze rfl rfl rfl rfl ?_; refine Zf ?_; refine Zb ?_; refine Zk (.cons (k := 10) rfl (.cons (k := 9) rfl (.cons (k := 8) rfl (.cons (k := 6) rfl (.cons (k := 0) rfl (.cons (k := 3) rfl (.cons (k := 2) rfl .nil))))))) ?_; refine Zj ?_; refine Za (l := [0, 1]) rfl ?_; refine Zc rfl rfl rfl rfl ?_; refine Ze rfl rfl rfl rfl ?_; refine Zf ?_; refine Zb ?_; refine Zag ?_; refine Zaw ?_
    refine Zaw ?_; refine Zam ?_; refine Zaw ?_
    refine Zab (.inr rfl) (.tmp rfl .nil) (fun w hw => ?_)
    obtain ⟨M9, g1, g2, g3⟩ := ho.frz (H := H) (hw.cnt (by intro zz; first | exact Nat.le_refl _ | (simp only [Zh, Zd, Zi, cat, List.append_eq, List.append_assoc, List.cons_append, List.nil_append, List.append_nil]; omega) | (simp only [Zh, Zd, Zi, cat, List.append_eq, List.append_assoc, List.cons_append, List.nil_append, List.append_nil, StepL06V.segs]; omega)))
    refine ⟨_, M9, rfl, g1, g2, _, rfl, ?_, g3⟩
    simpa [Err.trail] using htr
theorem bTrail_o (M : Mem) (o : Option Err) (v : Value) (ho : OE M o v) (hz : wtO o ≤ 10000) : Esp.Fn Tryd.prog 16 [v] M (fun M' v => ∃ s9 : Sl ByteArray, v = s9.val ∧ s9.l = trailO o ∧ SlK M' oneS 1 s9) := by
  cases o with
  | none => obtain rfl : v = .nilIface := ho; exact bTrail_nil M
  | some e => exact bTrail_some M e v ho (Nat.le_trans (big_wt e) hz)
theorem Same_ok (M : Mem) (a b : Sl ByteArray) (ha : SlK M oneS 1 a) (hb : SlK M oneS 1 b) : Fs Tryd.prog 15 [a.val, b.val] M (fun v => v = .bool (decide (a.l = b.l))) := by
  obtain ⟨a_a, a_c, a_l⟩ := a
  obtain ⟨b_a, b_c, b_l⟩ := b
  have s_a : SlM M a_a (a_l.map oneS) 1 := ha.h1
  have n_a : (a_l.map oneS).length = a_l.length := List.length_map ..
  have m_a : a_l.length ≤ 9223372036854775807 := ha.h2
  have s_b : SlM M b_a (b_l.map oneS) 1 := hb.h1
  have n_b : (b_l.map oneS).length = b_l.length := List.length_map ..
  have m_b : b_l.length ≤ 9223372036854775807 := hb.h2
  refine Zbb Tryd.func15 rfl Tryd.ntmps15 rfl ?_; intro H
  refine Zj ?_; refine Za (l := [0]) rfl ?_; refine Ze rfl rfl rfl rfl ?_; refine Zf ?_; refine Zb ?_; refine Zj ?_; refine Zj ?_; refine Za (l := [0, 1, 2, 3, 4]) rfl ?_; refine Zc rfl rfl rfl rfl ?_; refine Zas rfl rfl rfl rfl F.elem40 rfl ?_; refine Zc rfl rfl rfl rfl ?_; refine Zas rfl rfl rfl rfl F.elem40 rfl ?_; refine Zao rfl rfl rfl rfl rfl rfl ?_; refine Zf ?_; refine Zb ?_; refine Zk (.cons (k := 10) rfl (.cons (k := 4) rfl (.cons (k := 0) rfl (.cons (k := 1) rfl .nil)))) ?_
  refine Zx rfl (fun hc1 => ?_) (fun hc1 => ?_)
  · first | replace hc1 := dT hc1 | replace hc1 := dF hc1 | replace hc1 := nT hc1 | replace hc1 := nF hc1 | skip
    try simp only [StepL06V.eta] at hc1
    first
    | (exfalso; omega)
    | (exfalso; simp [eqX] at hc1; done)
    | contradiction
    | skip
      refine Zj ?_; refine Za (l := [0]) rfl ?_; refine Ze rfl rfl rfl rfl ?_; refine Zf ?_; refine Zb ?_; refine Zk (.cons (k := 4) rfl (.cons (k := 0) rfl (.cons (k := 1) rfl .nil))) ?_; refine Zag ?_; refine Zam ?_
      refine Zab (.inr rfl) (.tmp rfl .nil) (fun w hw => ?_)
      refine ⟨_, rfl, hw.cnt (by intro zz; first | exact Nat.le_refl _ | (simp only [Zh, Zd, Zi, cat, List.append_eq, List.append_assoc, List.cons_append, List.nil_append, List.append_nil]; omega) | (simp only [Zh, Zd, Zi, cat, List.append_eq, List.append_assoc, List.cons_append, List.nil_append, List.append_nil, StepL06V.segs]; omega)), ?_⟩
      clear hw
      refine congrArg Value.bool ?_
      first | (exact (decide_eq_true (eq_of_take (by omega) hll hI.2)).symm) | (have hne : ¬ a_l = b_l := ne_at (k := k) (by omega) (by omega) (by simp_all); simp [hne]; done) | (have hne : ¬ a_l = b_l := (fun h9 => by subst h9; omega); simp [hne]; done)
  · first | replace hc1 := dT hc1 | replace hc1 := dF hc1 | replace hc1 := nT hc1 | replace hc1 := nF hc1 | skip
    try simp only [StepL06V.eta] at hc1
    first
    | (exfalso; omega)
    | (exfalso; simp [eqX] at hc1; done)
    | contradiction
    | skip
      refine Zu ?_; refine Zb ?_; refine Zk (.cons (k := 4) rfl (.cons (k := 0) rfl (.cons (k := 1) rfl .nil))) ?_; refine Zj ?_; refine Zj ?_; refine Za (l := [0]) rfl ?_; refine Ze rfl rfl rfl rfl ?_; refine Zf ?_; refine Zb ?_; refine Zaa ?_; refine Zk (.cons (k := 5) rfl (.cons (k := 4) rfl (.cons (k := 0) rfl (.cons (k := 1) rfl .nil)))) ?_; refine C_loopS (.succ .zero) (fun (k : Nat) z => z = [(5, .int .i64 (k : Int))] ∧ k ≤ a_l.length ∧ (a_l.length = b_l.length ∧ a_l.take k = b_l.take k)) (fun k => a_l.length - k) (0) (⟨rfl, by omega, by (refine ⟨by omega, ?_⟩; simp)⟩) ?_
      rintro k _ ⟨rfl, hk, hI⟩
      have hll := hI.1
      refine Zj ?_; refine Zj ?_; refine Za (l := [0, 1, 2, 3]) rfl ?_; refine Zc rfl rfl rfl rfl ?_; refine Zc rfl rfl rfl rfl ?_; refine Zas rfl rfl rfl rfl F.elem40 rfl ?_; refine Zao rfl rfl rfl rfl rfl rfl ?_; refine Zf ?_; refine Zb ?_
      refine Zx rfl (fun hc2 => ?_) (fun hc2 => ?_)
      · first | replace hc2 := dT hc2 | replace hc2 := dF hc2 | replace hc2 := nT hc2 | replace hc2 := nF hc2 | skip
        try simp only [StepL06V.eta] at hc2
        first
        | (exfalso; omega)
        | (exfalso; simp [eqX] at hc2; done)
        | contradiction
        | skip
          refine Zu ?_; refine Zb ?_; refine Zj ?_; refine Zaa ?_; refine Zj ?_; refine Zav (l := [0, 1, 2, 3, 4, 5, 6, 7, 8]) #[0, 0, 3, 7, 0, 0, 48, 112, 255] _ rfl (by kernel_rfl) (by kernel_rfl) St.drawn (fun _ h => h) ?_; refine Zc rfl rfl rfl rfl ?_; refine Zc rfl rfl rfl rfl ?_; refine Zn rfl rfl rfl rfl F.elem40 (by first | rfl | exact (Int.toNat_of_nonneg (by omega)).symm) (by first | omega | (simp; done) | (simp; omega)) (by first | exact ⟨_, _, rfl⟩ | assumption | exact SlM.plain (by assumption) (by first | (simp; done) | (simp; omega)) | exact RdS.plain (by assumption) (by first | (simp; done) | (simp; omega)) | exact OSl.plain (by assumption) (by first | (simp; done) | (simp; omega))) rfl ?_
          first | refine Zan rfl rfl rfl (by repeat first | exact List.Mem.head _ | refine List.Mem.tail _ ?_ | refine List.mem_append_right _ ?_) F.lay9 rfl rfl rfl ?_ | refine Zs rfl rfl rfl (by first | assumption | exact SlM.mono (by assumption) (by assumption)) (by first | exact Zg (by omega) | exact List.getElem?_eq_getElem (by omega) | exact rfl | exact Zg (by first | (simp; done) | (simp; omega))) F.lay9 rfl rfl rfl ?_ | refine Zr rfl rfl rfl (by assumption) (by first | exact Zg (by omega) | exact List.getElem?_eq_getElem (by omega) | exact rfl | exact Zg (by first | (simp; done) | (simp; omega))) F.lay9 rfl rfl rfl ?_ | refine Zp rfl rfl rfl (by first | assumption | exact Mem.get_of (by assumption) (by repeat first | assumption | refine Mem.le.trans (by assumption) ?_)) F.lay9 rfl rfl rfl ?_ | refine Zo rfl rfl rfl (by assumption) (by repeat first | exact Rem.here _ | exact Rem.two | apply Rem.skip | apply Rem.over) (by first | exact Zg (by omega) | exact List.getElem?_eq_getElem (by omega) | exact rfl | exact Zg (by first | (simp; done) | (simp; omega))) F.lay9 rfl rfl rfl ?_ | refine Zq rfl rfl rfl (by repeat first | exact List.Mem.head _ | refine List.Mem.tail _ ?_ | refine List.mem_append_right _ ?_) F.lay9 (by first | exact Zbj (by first | omega | decide) | exact Zax (by first | omega | decide)) rfl ?_
          refine Zc rfl rfl rfl rfl ?_; refine Zc rfl rfl rfl rfl ?_; refine Zn rfl rfl rfl rfl F.elem40 (by first | rfl | exact (Int.toNat_of_nonneg (by omega)).symm) (by first | omega | (simp; done) | (simp; omega)) (by first | exact ⟨_, _, rfl⟩ | assumption | exact SlM.plain (by assumption) (by first | (simp; done) | (simp; omega)) | exact RdS.plain (by assumption) (by first | (simp; done) | (simp; omega)) | exact OSl.plain (by assumption) (by first | (simp; done) | (simp; omega))) rfl ?_
          first | refine Zan rfl rfl rfl (by repeat first | exact List.Mem.head _ | refine List.Mem.tail _ ?_ | refine List.mem_append_right _ ?_) F.lay9 rfl rfl rfl ?_ | refine Zs rfl rfl rfl (by first | assumption | exact SlM.mono (by assumption) (by assumption)) (by first | exact Zg (by omega) | exact List.getElem?_eq_getElem (by omega) | exact rfl | exact Zg (by first | (simp; done) | (simp; omega))) F.lay9 rfl rfl rfl ?_ | refine Zr rfl rfl rfl (by assumption) (by first | exact Zg (by omega) | exact List.getElem?_eq_getElem (by omega) | exact rfl | exact Zg (by first | (simp; done) | (simp; omega))) F.lay9 rfl rfl rfl ?_ | refine Zp rfl rfl rfl (by first | assumption | exact Mem.get_of (by assumption) (by repeat first | assumption | refine Mem.le.trans (by assumption) ?_)) F.lay9 rfl rfl rfl ?_ | refine Zo rfl rfl rfl (by assumption) (by repeat first | exact Rem.here _ | exact Rem.two | apply Rem.skip | apply Rem.over) (by first | exact Zg (by omega) | exact List.getElem?_eq_getElem (by omega) | exact rfl | exact Zg (by first | (simp; done) | (simp; omega))) F.lay9 rfl rfl rfl ?_ | refine Zq rfl rfl rfl (by repeat first | exact List.Mem.head _ | refine List.Mem.tail _ ?_ | refine List.mem_append_right _ ?_) F.lay9 (by first | exact Zbj (by first | omega | decide) | exact Zax (by first | omega | decide)) rfl ?_
          refine X_str rfl rfl rfl rfl rfl rfl ?_; refine Zf ?_; refine Zb ?_
          refine Zx rfl (fun hc3 => ?_) (fun hc3 => ?_)
          · first | replace hc3 := dT hc3 | replace hc3 := dF hc3 | replace hc3 := nT hc3 | replace hc3 := nF hc3 | skip
            try simp only [StepL06V.eta] at hc3
            first
            | (exfalso; omega)
            | (exfalso; simp [eqX] at hc3; done)
            | contradiction
            | skip
              refine Zj ?_; refine Za (l := [0]) rfl ?_; refine Ze rfl rfl rfl rfl ?_; refine Zf ?_; refine Zb ?_; refine Zag ?_; refine Zaw ?_; refine Zam ?_; refine Zam ?_; refine Zaw ?_; refine Zam ?_
              refine Zab (.inr rfl) (.tmp rfl .nil) (fun w hw => ?_)
              refine ⟨_, rfl, hw.cnt (by intro zz; first | exact Nat.le_refl _ | (simp only [Zh, Zd, Zi, cat, List.append_eq, List.append_assoc, List.cons_append, List.nil_append, List.append_nil]; omega) | (simp only [Zh, Zd, Zi, cat, List.append_eq, List.append_assoc, List.cons_append, List.nil_append, List.append_nil, StepL06V.segs]; omega)), ?_⟩
              clear hw
              refine congrArg Value.bool ?_
              first | (exact (decide_eq_true (eq_of_take (by omega) hll hI.2)).symm) | (have hne : ¬ a_l = b_l := ne_at (k := k) (by omega) (by omega) (by simp_all); simp [hne]; done) | (have hne : ¬ a_l = b_l := (fun h9 => by subst h9; omega); simp [hne]; done)
          · first | replace hc3 := dT hc3 | replace hc3 := dF hc3 | replace hc3 := nT hc3 | replace hc3 := nF hc3 | skip
            try simp only [StepL06V.eta] at hc3
            first
            | (exfalso; omega)
            | (exfalso; simp [eqX] at hc3; done)
            | contradiction
            | skip
              refine Zu ?_; refine Zbk ?_; refine Zb ?_; refine Za (l := [0, 1, 2]) rfl ?_; refine Zc rfl rfl rfl rfl ?_; refine Zai rfl rfl rfl rfl rfl (by first | exact Zt (by decide) (by omega) | exact Zz (by decide) (by omega) | exact Zae (by decide) (by omega) | exact Zm (by decide) (by omega) | exact Zah _ | exact Zay _ | exact Zak _ | exact rfl) rfl ?_; refine Ze rfl rfl rfl rfl ?_; refine Zf ?_; refine K_roundS (a' := [(5, _)]) (k + 1) (.cons (k := 5) rfl (.cons (k := 4) rfl (.cons (k := 0) rfl (.cons (k := 1) rfl (.nil))))) (fun w hw => by first | exact hw | exact hw.cnt (by intro zz; first | exact Nat.le_refl _ | (simp only [Zh, Zd, Zi, cat, List.append_eq, List.append_assoc, List.cons_append, List.nil_append, List.append_nil]; omega) | (simp only [Zh, Zd, Zi, cat, List.append_eq, List.append_assoc, List.cons_append, List.nil_append, List.append_nil, StepL06V.segs]; omega))) ?_ ?_
              · refine ⟨rfl, by omega, ?_⟩
                refine ⟨hll, take_succ_eq (by omega) (by omega) hI.2 ?_⟩; simp_all
              · omega
      · first | replace hc2 := dT hc2 | replace hc2 := dF hc2 | replace hc2 := nT hc2 | replace hc2 := nF hc2 | skip
        try simp only [StepL06V.eta] at hc2
        first
        | (exfalso; omega)
        | (exfalso; simp [eqX] at hc2; done)
        | contradiction
        | skip
          refine Zbt ?_; refine Zbd ?_; refine Zbd ?_; refine Zca ?_; refine Zb ?_; refine Zk (.cons (k := 4) rfl .nil) ?_; refine Zj ?_; refine Za (l := [0]) rfl ?_; refine Ze rfl rfl rfl rfl ?_; refine Zf ?_; refine Zb ?_; refine Zag ?_
          refine Zab (.inr rfl) (.tmp rfl .nil) (fun w hw => ?_)
          refine ⟨_, rfl, hw.cnt (by intro zz; first | exact Nat.le_refl _ | (simp only [Zh, Zd, Zi, cat, List.append_eq, List.append_assoc, List.cons_append, List.nil_append, List.append_nil]; omega) | (simp only [Zh, Zd, Zi, cat, List.append_eq, List.append_assoc, List.cons_append, List.nil_append, List.append_nil, StepL06V.segs]; omega)), ?_⟩
          clear hw
          refine congrArg Value.bool ?_
          first | (exact (decide_eq_true (eq_of_take (by omega) hll hI.2)).symm) | (have hne : ¬ a_l = b_l := ne_at (k := k) (by omega) (by omega) (by simp_all); simp [hne]; done) | (have hne : ¬ a_l = b_l := (fun h9 => by subst h9; omega); simp [hne]; done)
end Go.Proofs.YtbeahcfghjiogaaDoor
