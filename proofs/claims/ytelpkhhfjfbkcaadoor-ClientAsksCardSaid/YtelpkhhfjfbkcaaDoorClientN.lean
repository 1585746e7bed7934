/-
  What a client asks, and what becomes of it.
-/
import Derived.Test.YtelpkhhfjfbkcaaDoorClientM
import Derived.Test.YtelpkhhfjfbkcaaDoorCircleM
set_option linter.unusedSimpArgs false
set_option linter.unusedVariables false
set_option linter.unnecessarySimpa false
namespace Go.Esp

def ofTri (r : ClientV × OutcomeV × Int) : Value := .tuple #[r.1.enc, r.2.1.enc, .int .i64 r.2.2]
def endR (c : ClientV) (a : AnswerV) : ClientV × OutcomeV × Int := ({ c with busy := false }, ⟨true, a⟩, 0)
def tickR (c : ClientV) (budget : Int) : ClientV × OutcomeV × Int :=
  if ¬ IsClient c ∨ budget < 0 ∨ 1000 < budget then (ClientV.zero, OutcomeV.zero, 1)
  else if c.busy = false then (c, OutcomeV.zero, 0)
  else if budget ≤ c.tries then endR c ⟨10, 0, false, ⟨#[]⟩⟩
  else ({ c with tries := c.tries + 1 }, OutcomeV.zero, 0)
def takeR (c : ClientV) (p : ParcelV) : ClientV × OutcomeV × Int :=
  if ¬ IsClient c ∨ ¬ IsParcel p then (ClientV.zero, OutcomeV.zero, 1)
  else if c.busy = false ∨ p.kind ≠ 2 ∨ ¬ (p.op.client = c.num ∧ p.op.req = c.req) ∨ p.answer.code = 7 then (c, OutcomeV.zero, 0)
  else endR c p.answer

/-- Of an answer's parcel the operation says no more than who. -/
theorem who_op {p : ParcelV} (h : IsParcel p) (hk : p.kind = 2) : p.op = ⟨p.op.client, p.op.req, 0, 0, ⟨#[]⟩⟩ := by
  rcases h with h | h | h | h
  · omega
  · exact h.2.2.1
  · omega
  · omega

def askL (c : ClientV) (l : List PeerV) (epoch : Int) : List PostV :=
  if h : IsCircle l ∧ IsClient c ∧ c.busy = true then [⟨(l[ownerI l c.key]'(ownerI_lt (by have := h.1.1.1; omega))).addr, ⟨1, epoch, c.key, c.op, AnswerV.zero, 0, CellV.zero⟩⟩] else []
def askE (c : ClientV) (l : List PeerV) : Int := if IsCircle l ∧ IsClient c then 0 else 1

def SamePosts : List PostV → List PostV → Prop
  | [], [] => True
  | a :: l, b :: m => (a.to = b.to ∧ SameParcel a.parcel b.parcel) ∧ SamePosts l m
  | _, _ => False
instance decPosts : (l m : List PostV) → Decidable (SamePosts l m)
  | [], [] => .isTrue trivial
  | a :: l, b :: m => by unfold SamePosts; have := decPosts l m; exact inferInstance
  | [], _ :: _ => .isFalse (fun h => h)
  | _ :: _, [] => .isFalse (fun h => h)
theorem SamePosts.len : ∀ {l m : List PostV}, SamePosts l m → l.length = m.length
  | [], [], _ => rfl
  | _ :: l, _ :: m, h => by simp [SamePosts.len h.2]
  | [], _ :: _, h => h.elim
  | _ :: _, [], h => h.elim
theorem SamePosts.refl : ∀ l : List PostV, SamePosts l l
  | [] => trivial
  | a :: l => ⟨⟨rfl, rfl, rfl, rfl, rfl, rfl, rfl, rfl, rfl, rfl, rfl⟩, SamePosts.refl l⟩
theorem same_drop {l m : List PostV} {k : Nat} (hk : k < l.length) (hk' : k < m.length) : SamePosts (l.drop k) (m.drop k) ↔ (l[k].to = m[k].to ∧ SameParcel l[k].parcel m[k].parcel) ∧ SamePosts (l.drop (k + 1)) (m.drop (k + 1)) := by
  rw [List.drop_eq_getElem_cons hk, List.drop_eq_getElem_cons hk']
  exact Iff.rfl

def askT : ByteArray := ⟨#[97, 115, 107]⟩

/-- A small number's place. -/
def smallP (n : Int) : Plc := ofBytes fun i => if i = 19 then (n % 256).toNat else if i = 18 then (n / 256 % 256).toNat else 0
theorem smallP_lt (n : Int) : ∀ i, (if i = 19 then (n % 256).toNat else if i = 18 then (n / 256 % 256).toNat else 0) < 256 := fun i => by
  split
  · omega
  · split
    · omega
    · decide
theorem idV0 {i : Nat} (h : i < 20) : (idV 0)[i] = .int .u8 0 := by rw [idV_get _ h]; simp [idB]
theorem small_seg (n : Int) : idV (smallP n) = ((idV 0).set 19 (.int .u8 (n % 256))).set 18 (.int .u8 (n / 256 % 256)) := by
  apply Vector.ext
  intro i hi
  rw [idV_get _ hi]
  unfold smallP
  rw [idB_ofBytes (smallP_lt n) hi]
  by_cases e8 : i = 18
  · subst e8
    rw [Vector.getElem_set_self]
    simp
    omega
  · rw [Vector.getElem_set_ne _ _ (Ne.symm e8)]
    by_cases e9 : i = 19
    · subst e9
      rw [Vector.getElem_set_self]
      simp
      omega
    · rw [Vector.getElem_set_ne _ _ (Ne.symm e9), idV0 hi]
      simp [e8, e9]

/-! The document's example. -/
def xc0 : ClientV := ⟨5, 0, false, 0, ⟨0, 0, 0, 0, ⟨#[]⟩⟩, 0⟩
def xc1 : ClientV := ⟨5, 1, true, smallP 7, ⟨5, 1, 1, 0, ⟨#[]⟩⟩, 0⟩
def xc2 : ClientV := ⟨5, 1, false, smallP 7, ⟨5, 1, 1, 0, ⟨#[]⟩⟩, 0⟩
def xc3 : ClientV := ⟨5, 2, true, smallP 7, ⟨5, 2, 4, 3, ⟨#[]⟩⟩, 0⟩
def xc4 : ClientV := ⟨5, 2, false, smallP 7, ⟨5, 2, 4, 3, ⟨#[]⟩⟩, 0⟩
def xp : ParcelV := ⟨2, 0, 0, ⟨5, 1, 0, 0, ⟨#[]⟩⟩, ⟨0, 3, false, ⟨#[]⟩⟩, 0, CellV.zero⟩
theorem xe1 : newC 5 = (xc0, 0) := by simp [newC, xc0, ClientV.zero]
theorem xe2 : startC xc0 (smallP 7) 1 0 ⟨#[]⟩ = (xc1, 0) := by simp [startC, IsClient, IsOp, opOf, xc0, xc1, w64]
theorem xe3 : startC xc1 (smallP 7) 1 0 ⟨#[]⟩ = (ClientV.zero, 13) := by simp [startC, IsClient, IsOp, opOf, xc1, w64]
theorem xe4 : takeR xc1 xp = (xc2, ⟨true, ⟨0, 3, false, ⟨#[]⟩⟩⟩, 0) := by
  have h : IsParcel xp := by
    refine .inr (.inl ⟨rfl, rfl, rfl, by decide, by decide, ?_, rfl, ?_⟩)
    · simp [OkAnswer, xp, empty_size]
    · simp [Bare, xp, CellV.zero]
  have h2 : IsClient xc1 := by simp [IsClient, IsOp, xc1]
  unfold takeR
  rw [if_neg (by simp [h, h2]), if_neg (by simp [xc1, xp])]
  rfl
theorem xe5 : startC xc2 (smallP 7) 4 3 ⟨#[]⟩ = (xc3, 0) := by simp [startC, IsClient, IsOp, opOf, xc2, xc3, w64]
theorem xe6 : tickR xc3 0 = (xc4, ⟨true, ⟨10, 0, false, ⟨#[]⟩⟩⟩, 0) := by simp [tickR, endR, IsClient, IsOp, xc3, xc4]
theorem xe7 : IsClient xc3 := by simp [IsClient, IsOp, xc3]
theorem xp_ok (M : Mem) : ParcelV.ok M xp := ⟨CellV.zero_ok M⟩
end Go.Esp
