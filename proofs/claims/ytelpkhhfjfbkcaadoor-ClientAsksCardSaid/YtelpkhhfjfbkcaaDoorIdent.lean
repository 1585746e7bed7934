/-
  Places compared byte by byte, and as numbers.
-/
import Derived.Test.YtelpkhhfjfbkcaaDoorRules5
import Derived.Laws.Sem
set_option linter.unusedSimpArgs false
set_option linter.unusedVariables false
set_option linter.unnecessarySimpa false
namespace Go.Esp

theorem ofB_step {f g : Nat → Nat} (hf : ∀ i, f i < 256) (hg : ∀ i, g i < 256) {n : Nat} (h : ofB n f < ofB n g) : ofB (n + 1) f < ofB (n + 1) g := by
  have := hf n
  have := hg n
  simp only [ofB]
  omega

theorem ofB_mono {f g : Nat → Nat} (hf : ∀ i, f i < 256) (hg : ∀ i, g i < 256) {m : Nat} (h : ofB m f < ofB m g) : ∀ n, ofB (m + n) f < ofB (m + n) g
  | 0 => h
  | n + 1 => ofB_step hf hg (ofB_mono hf hg h n)

theorem less_of {a b : Plc} {k : Nat} (hk : k < 20) (h : ∀ j, j < k → idB a j = idB b j) (hlt : idB a k < idB b k) : a.toNat < b.toNat := by
  rw [← idB_toNat a, ← idB_toNat b]
  have h1 : ofB (k + 1) (idB a) < ofB (k + 1) (idB b) := by
    simp only [ofB, ofB_congr h]
    omega
  have := ofB_mono (idB_lt a) (idB_lt b) h1 (20 - (k + 1))
  rwa [show k + 1 + (20 - (k + 1)) = 20 by omega] at this

theorem less_at {a b : Plc} {k : Nat} (hk : k < 20) (h : ∀ j, j < k → idB a j = idB b j) (hne : ¬ idB a k = idB b k) : a.toNat < b.toNat ↔ idB a k < idB b k := by
  constructor
  · intro hlt
    rcases Nat.lt_or_ge (idB a k) (idB b k) with h1 | h1
    · exact h1
    · have := less_of hk (fun j hj => (h j hj).symm) (show idB b k < idB a k by omega)
      omega
  · exact less_of hk h

theorem plc_eq {a b : Plc} (h : ∀ j, j < 20 → idB a j = idB b j) : a = b := by
  apply BitVec.eq_of_toNat_eq
  rw [← idB_toNat a, ← idB_toNat b]
  exact ofB_congr h

/-- The twenty bytes. -/
def idBytes (x : Plc) : ByteArray := ⟨((List.range 20).map fun i => (idB x i).toUInt8).toArray⟩

theorem idBytes_size (x : Plc) : (idBytes x).size = 20 := by simp [idBytes, ByteArray.size]
theorem idBytes_at (x : Plc) {i : Nat} (h : i < 20) : (idBytes x)[i]! = (idB x i).toUInt8 := by
  have hs : i < (idBytes x).size := by rw [idBytes_size]; exact h
  rw [getElem!_pos (idBytes x) i hs]
  show (((List.range 20).map fun i => (idB x i).toUInt8).toArray)[i]'(by simpa using h) = _
  simp

theorem u8_inj {m n : Nat} (hm : m < 256) (hn : n < 256) : m.toUInt8 = n.toUInt8 ↔ m = n := by
  constructor
  · intro h
    have := congrArg UInt8.toNat h
    simp only [Nat.toUInt8, UInt8.toNat_ofNat'] at this
    omega
  · rintro rfl; rfl
theorem u8_lt {m n : Nat} (hm : m < 256) (hn : n < 256) : m.toUInt8 < n.toUInt8 ↔ m < n := by
  rw [UInt8.lt_iff_toNat_lt]
  simp only [Nat.toUInt8, UInt8.toNat_ofNat']
  omega

def cmpP (a b : Plc) : Int := if a.toNat < b.toNat then -1 else if a = b then 0 else 1

theorem cmp_bytes (a b : Plc) : Extern.BytealgCompare.cmp (idBytes a) (idBytes b) = cmpP a b := by
  unfold Extern.BytealgCompare.cmp cmpP
  rw [idBytes_size, idBytes_size, Nat.min_self]
  cases hf : (List.range 20).find? fun i => (idBytes a)[i]! != (idBytes b)[i]! with
  | none =>
    have h := List.find?_eq_none.1 hf
    have e : a = b := plc_eq fun j hj => by
      have := h j (List.mem_range.2 hj)
      rw [idBytes_at a hj, idBytes_at b hj] at this
      exact (u8_inj (idB_lt _ _) (idB_lt _ _)).1 (by simpa using this)
    subst e
    simp
  | some i =>
    have h1 := List.find?_some hf
    have hi : i < 20 := List.mem_range.1 (List.mem_of_find?_eq_some hf)
    have h2 : ∀ j, j < i → idB a j = idB b j := by
      intro j hj
      have hj' : j < 20 := by omega
      rw [List.find?_range_eq_some] at hf
      have := hf.2.2 j hj
      rw [idBytes_at a hj', idBytes_at b hj'] at this
      exact (u8_inj (idB_lt _ _) (idB_lt _ _)).1 (by simpa using this)
    rw [idBytes_at a hi, idBytes_at b hi] at h1
    have hne : ¬ idB a i = idB b i := fun e => by rw [e] at h1; simp at h1
    have hl := less_at hi h2 hne
    simp only [idBytes_at a hi, idBytes_at b hi, u8_lt (idB_lt a i) (idB_lt b i)]
    have hab : a ≠ b := fun e => hne (by rw [e])
    simp only [hl, hab, if_false]

section
variable {P : Program} {M : Mem} {H : Hp}

theorem run_loadBytes {x : Plc} {w : World} {b : Nat} {T : TypeId} (hb : w.heap[b]? = some (rowO [idSeg x] T)) : ∀ (n k : Nat) (acc : ByteArray), k + n = 20 → acc.data.toList = (List.range k).map (fun i => (idB x i).toUInt8) →
    (Extern.Bytes.loadBytes ⟨b, k, none⟩ n acc).run P w = .ok (idBytes x) w
  | 0, k, acc, hk, ha => by
    have : acc = idBytes x := by
      apply ByteArray.ext
      apply Array.ext'
      rw [ha]
      simp [idBytes, show k = 20 by omega]
    subst this
    rfl
  | n + 1, k, acc, hk, ha => by
    have hk' : k < 20 := by omega
    have hc : w.cell? ⟨b, k, none⟩ = some (.int .u8 (idB x k)) := by
      rw [cell_of_row hb]
      have := id_at' (x := x) hk'
      simpa using this
    unfold Extern.Bytes.loadBytes
    rw [Sem.run_bind, run_load, hc]
    show (Sem.run P _ w) = _
    have := run_loadBytes hb n (k + 1) (acc.push (idB x k).toUInt8) (by omega) (by simp [ByteArray.push, ha, List.range_succ])
    simpa [Addr.add_lit] using this

theorem run_compare {a b : Plc} {ba bb : Nat} {T U : TypeId} {w : World} (ha : w.heap[ba]? = some (rowO [idSeg a] T)) (hb : w.heap[bb]? = some (rowO [idSeg b] U)) :
    (Extern.BytealgCompare.compare #[.slice (some ⟨ba, 0, none⟩) 20 20, .slice (some ⟨bb, 0, none⟩) 20 20]).run P w = .ok (.int .i64 (cmpP a b)) w := by
  have h1 : (Extern.Bytes.bytesOf (.slice (some ⟨ba, 0, none⟩) 20 20)).run P w = .ok (idBytes a) w := run_loadBytes ha 20 0 .empty rfl (by rfl)
  have h2 : (Extern.Bytes.bytesOf (.slice (some ⟨bb, 0, none⟩) 20 20)).run P w = .ok (idBytes b) w := run_loadBytes hb 20 0 .empty rfl (by rfl)
  show (do let u ← Extern.Bytes.bytesOf (.slice (some ⟨ba, 0, none⟩) 20 20); let v ← Extern.Bytes.bytesOf (.slice (some ⟨bb, 0, none⟩) 20 20); pure (goInt (Extern.BytealgCompare.cmp u v)) : Sem Value).run P w = _
  rw [run_bind_ok h1, run_bind_ok h2, cmp_bytes]
  rfl
end
end Go.Esp
