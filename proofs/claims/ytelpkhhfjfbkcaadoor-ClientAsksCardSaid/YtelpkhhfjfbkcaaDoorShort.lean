/-
  The rules once more: what is plain in their arguments is found by itself.
-/
import Derived.Test.YtelpkhhfjfbkcaaDoorRules5
set_option linter.unusedSimpArgs false
set_option linter.unusedVariables false
set_option linter.unnecessarySimpa false
namespace Go.Esp
section
variable {P : Program} {n : Sh} {ops : Array Oper} {Q : Exit → Act → World → Prop} {rest : List Nat} {M M' : Mem} {H H' H0 : Hp} {e : Env} {J S : World → Prop} {A : As} {i : Nat}
  {dst : Option Tmp} {d : Tmp} {op : Op} {ty : TypeId} {pos : String} {af : Array Edge} {gd : Option (Nat × Bool)}

def picks (e : Env) : List Nat → Option Env
  | [] => some []
  | k :: ks => match get e k, picks e ks with
    | some v, some r => some ((k, v) :: r)
    | _, _ => none
theorem picks_ok {e : Env} : ∀ {ks : List Nat} {e' : Env}, picks e ks = some e' → Pick e e'
  | [], e', h => by cases h; exact .nil
  | k :: ks, e', h => by
    unfold picks at h
    split at h
    · rename_i v r h1 h2
      cases h
      exact .cons h1 (picks_ok h2)
    · cases h
/-- Some slots alone. -/
theorem Y_pk {c : Code} {e' : Env} (ks : List Nat) (hk : C P n c Q S e') (h : picks e ks = some e' := by exact rfl) : C P n c Q S e := C_pick (picks_ok h) hk

theorem Y_move {x : Operand} {v : Value} (hk : XD P n ops Q rest J A ((d, v) :: e)) (hi : ops[i]? = some ⟨some d, .move x, ty, pos, af, gd⟩ := by exact rfl) (hg : want ops e gd = some true := by exact rfl) (hx : ev e x = some v := by exact rfl) (hd : Nat.ble (d + 1) n.sz = true := by exact rfl) : XD P n ops Q (i :: rest) J A e :=
  X_move hi hg hx hd hk

theorem Y_assign {x : Operand} {v : Value} (hk : XD P n ops Q rest J A ((d, v) :: e)) (hi : ops[i]? = some ⟨some d, .assign x, ty, pos, af, gd⟩ := by exact rfl) (hg : want ops e gd = some true := by exact rfl) (hx : ev e x = some v := by exact rfl) (hd : Nat.ble (d + 1) n.sz = true := by exact rfl) : XD P n ops Q (i :: rest) J A e :=
  X_assign hi hg hx hd hk

theorem Y_pick {c x y : Operand} {b : Bool} {v : Value} (hk : XD P n ops Q rest J A ((d, v) :: e)) (hi : ops[i]? = some ⟨some d, .pick c x y, ty, pos, af, gd⟩ := by exact rfl) (hg : want ops e gd = some true := by exact rfl) (hc : ev e c = some (.bool b) := by exact rfl) (hx : ev e (if b then x else y) = some v := by exact rfl) (hd : Nat.ble (d + 1) n.sz = true := by exact rfl) : XD P n ops Q (i :: rest) J A e :=
  X_pick hi hg hc hx hd hk

theorem Y_not {t : TypeId} {x : Operand} {b : Bool} (hk : XD P n ops Q rest J A ((d, .bool (!b)) :: e)) (hi : ops[i]? = some ⟨some d, .unOp .not t x, ty, pos, af, gd⟩ := by exact rfl) (hg : want ops e gd = some true := by exact rfl) (hx : ev e x = some (.bool b) := by exact rfl) (hd : Nat.ble (d + 1) n.sz = true := by exact rfl) : XD P n ops Q (i :: rest) J A e :=
  X_not hi hg hx hd hk

theorem Y_extract {t : Operand} {ix : Nat} {vs : Array Value} {v : Value} (hk : XD P n ops Q rest J A ((d, v) :: e)) (hi : ops[i]? = some ⟨some d, .extract t ix, ty, pos, af, gd⟩ := by exact rfl) (hg : want ops e gd = some true := by exact rfl) (hx : ev e t = some (.tuple vs) := by exact rfl) (hv : vs[ix]? = some v := by exact rfl) (hd : Nat.ble (d + 1) n.sz = true := by exact rfl) : XD P n ops Q (i :: rest) J A e :=
  X_extract hi hg hx hv hd hk

theorem Y_nilCheck {x : Operand} {a : Addr} (hk : XD P n ops Q rest J A ((d, .pointer (some a)) :: e)) (hi : ops[i]? = some ⟨some d, .nilCheck x, ty, pos, af, gd⟩ := by exact rfl) (hg : want ops e gd = some true := by exact rfl) (hx : ev e x = some (.pointer (some a)) := by exact rfl) (hd : Nat.ble (d + 1) n.sz = true := by exact rfl) : XD P n ops Q (i :: rest) J A e :=
  X_nilCheck hi hg hx hd hk

theorem Y_cmp {o : BinOp} {t t' : TypeId} {x y : Operand} {k : IntKind} {a b : Int} {c : Bool} (hk : XD P n ops Q rest J A ((d, .bool c) :: e)) (hi : ops[i]? = some ⟨some d, .binOp o t x y t', ty, pos, af, gd⟩ := by exact rfl) (hg : want ops e gd = some true := by exact rfl) (hx : ev e x = some (.int k a) := by exact rfl) (hy : ev e y = some (.int k b) := by exact rfl) (hc : cmpI o a b = some c := by exact rfl) (hd : Nat.ble (d + 1) n.sz = true := by exact rfl) : XD P n ops Q (i :: rest) J A e :=
  X_cmp hi hg hx hy hc hd hk

theorem Y_str {o : BinOp} {t t' : TypeId} {x y : Operand} {a b : ByteArray} {c : Bool} (hk : XD P n ops Q rest J A ((d, .bool c) :: e)) (hi : ops[i]? = some ⟨some d, .binOp o t x y t', ty, pos, af, gd⟩ := by exact rfl) (hg : want ops e gd = some true := by exact rfl) (hx : ev e x = some (.string a) := by exact rfl) (hy : ev e y = some (.string b) := by exact rfl) (hc : cmpS o a b = some c := by exact rfl) (hd : Nat.ble (d + 1) n.sz = true := by exact rfl) : XD P n ops Q (i :: rest) J A e :=
  X_str hi hg hx hy hc hd hk

theorem Y_skip  (hk : XD P n ops Q rest J A ((d, undef) :: e)) (hi : ops[i]? = some ⟨some d, op, ty, pos, af, gd⟩ := by exact rfl) (hg : want ops e gd = some false := by exact rfl) (hd : Nat.ble (d + 1) n.sz = true := by exact rfl) : XD P n ops Q (i :: rest) J A e :=
  X_skip hi hg hd hk

theorem Y_skip0  (hk : XD P n ops Q rest J A e) (hi : ops[i]? = some ⟨Option.none, op, ty, pos, af, gd⟩ := by exact rfl) (hg : want ops e gd = some false := by exact rfl) : XD P n ops Q (i :: rest) J A e :=
  X_skip0 hi hg hk

theorem Y_fieldAddr {s : TypeId} {x : Operand} {f k b off : Nat} (hf : foff P s f = some k) (hk : XD P n ops Q rest J A ((d, .pointer (some ⟨b, off + k, none⟩)) :: e)) (hi : ops[i]? = some ⟨some d, .fieldAddr s x f, ty, pos, af, gd⟩ := by exact rfl) (hg : want ops e gd = some true := by exact rfl) (hx : ev e x = some (.pointer (some ⟨b, off, none⟩)) := by exact rfl) (hd : Nat.ble (d + 1) n.sz = true := by exact rfl) : XD P n ops Q (i :: rest) J A e :=
  X_fieldAddr hi hg hx hf hd hk

theorem Y_load {t : TypeId} {x : Operand} {b off m : Nat} {agg : Bool} {r r' : Segs} {T : TypeId} {v : Value} {MJ : Mem} {HJ : Hp} (hl : lay P t = some (agg, m)) (hk : XD P n ops Q rest (St MJ HJ) A ((d, v) :: e)) (hi : ops[i]? = some ⟨some d, .load t x, ty, pos, af, gd⟩ := by exact rfl) (hg : want ops e gd = some true := by exact rfl) (hx : ev e x = some (.pointer (some ⟨b, off, none⟩)) := by exact rfl) (hb : (b, rowO r T) ∈ HJ := by repeat first | exact List.Mem.head _ | refine List.Mem.tail _ ?_ | refine List.mem_append_right _ ?_) (hs : Segs.sub r off m = some r' := by exact rfl) (hv : readAs agg r' = some v := by exact rfl) (hd : Nat.ble (d + 1) n.sz = true := by exact rfl) : XD P n ops Q (i :: rest) (St MJ HJ) A e :=
  X_load hi hg hx hb hl hs hv hd hk

theorem Y_alloc {T : TypeId} {z : Value} {r : Segs} (hz : zeroOf P T = some z) (hk : ∀ b, XD P n ops Q rest J ⟨M, (b, rowO r T) :: H⟩ ((d, .pointer (some ⟨b, 0, none⟩)) :: e)) (hi : ops[i]? = some ⟨some d, .alloc T, ty, pos, af, gd⟩ := by exact rfl) (hg : want ops e gd = some true := by exact rfl) (hp : Parts z r := by constructor) (hd : Nat.ble (d + 1) n.sz = true := by exact rfl) : XD P n ops Q (i :: rest) J ⟨M, H⟩ e :=
  X_alloc hi hg hz hp hd hk

theorem Y_box {T : TypeId} {x : Operand} {v : Value} {r : Segs} (hk : ∀ b, XD P n ops Q rest J ⟨M, (b, rowO r T) :: H⟩ ((d, .pointer (some ⟨b, 0, none⟩)) :: e)) (hi : ops[i]? = some ⟨some d, .box T x, ty, pos, af, gd⟩ := by exact rfl) (hg : want ops e gd = some true := by exact rfl) (hx : ev e x = some v := by exact rfl) (hp : Parts v r := by constructor) (hd : Nat.ble (d + 1) n.sz = true := by exact rfl) : XD P n ops Q (i :: rest) J ⟨M, H⟩ e :=
  X_box hi hg hx hp hd hk

theorem Y_store {t : TypeId} {x y : Operand} {b off m : Nat} {agg : Bool} {r q u : Segs} {T : TypeId} {v : Value} (hl : lay P t = some (agg, m)) (hk : XD P n ops Q rest (St M H') ⟨M, H'⟩ e) (hi : ops[i]? = some ⟨none, .store t x y, ty, pos, af, gd⟩ := by exact rfl) (hg : want ops e gd = some true := by exact rfl) (hx : ev e x = some (.pointer (some ⟨b, off, none⟩)) := by exact rfl) (hy : ev e y = some v := by exact rfl) (hp : Parts v q := by constructor) (hq : flat q := by (try simp only [cat, List.cons_append, List.nil_append, List.append_nil]); (repeat (first | exact flat_nil | refine flat_id ?_ | (refine flat_one ?_ ?_; rfl))); done) (hu : Upd b (rowO r T) (rowO u T) H H' := by repeat first | exact Upd.head | apply Upd.tail | apply Upd.over) (hn : Segs.len q = m := by exact rfl) (hs : Segs.put r off q = some u := by exact rfl) (hnw : n.wrs.contains i = false := by rfl) : XD P n ops Q (i :: rest) J ⟨M, H⟩ e :=
  X_store hi hg hx hy hp hq hu hl hn hs hk hnw

theorem Y_len_str {t : Nat} {x : Operand} {s : ByteArray} {ats : Array TypeId} (ht : P.underlying t = some .string) (hk : XD P n ops Q rest J A ((d, .int .i64 (s.size : Int)) :: e)) (hi : ops[i]? = some ⟨some d, .call ⟨.builtin .len, #[x], ats⟩, ty, pos, af, gd⟩ := by exact rfl) (hg : want ops e gd = some true := by exact rfl) (hx : ev e x = some (.string s) := by exact rfl) (hat : ats[0]? = some t := by exact rfl) (hd : Nat.ble (d + 1) n.sz = true := by exact rfl) : XD P n ops Q (i :: rest) J A e :=
  X_len_str hi hg hx hat ht hd hk

theorem Y_len_sl {t E sz by_ : Nat} {x : Operand} {a : Option Addr} {l c : Nat} {ats : Array TypeId} (ht : slOf P t = some (E, sz, by_)) (hk : XD P n ops Q rest J A ((d, .int .i64 (l : Int)) :: e)) (hi : ops[i]? = some ⟨some d, .call ⟨.builtin .len, #[x], ats⟩, ty, pos, af, gd⟩ := by exact rfl) (hg : want ops e gd = some true := by exact rfl) (hx : ev e x = some (.slice a l c) := by exact rfl) (hat : ats[0]? = some t := by exact rfl) (hd : Nat.ble (d + 1) n.sz = true := by exact rfl) : XD P n ops Q (i :: rest) J A e :=
  X_len_sl hi hg hx hat ht hd hk

theorem Y_field {s T : TypeId} {x : Operand} {f off m : Nat} {agg : Bool} {r r' : Segs} {v : Value} (hf : fld P s f = some (off, T)) (hl : lay P T = some (agg, m)) (hk : XD P n ops Q rest J A ((d, v) :: e)) (hi : ops[i]? = some ⟨some d, .field s x f, ty, pos, af, gd⟩ := by exact rfl) (hg : want ops e gd = some true := by exact rfl) (hx : ev e x = some (aggV r) := by exact rfl) (hs : Segs.sub r off m = some r' := by exact rfl) (hv : readAs agg r' = some v := by exact rfl) (hd : Nat.ble (d + 1) n.sz = true := by exact rfl) : XD P n ops Q (i :: rest) J A e :=
  X_field hi hg hx hf hl hs hv hd hk

theorem Y_nil {o : BinOp} {t t' : TypeId} {x : Operand} {v z : Value} {D : TypeDesc} {c : Bool} (hu : P.underlying t = some D) (hk : XD P n ops Q rest J A ((d, .bool (eqX o c)) :: e)) (hi : ops[i]? = some ⟨some d, .binOp o t x (.const z) t', ty, pos, af, gd⟩ := by exact rfl) (hg : want ops e gd = some true := by exact rfl) (ho : isEq o = true := by exact rfl) (hx : ev e x = some v := by exact rfl) (hn : nilOf D v = some (c, z) := by exact rfl) (hd : Nat.ble (d + 1) n.sz = true := by exact rfl) : XD P n ops Q (i :: rest) J A e :=
  X_nil hi hg ho hx hu hn hd hk

theorem Y_iface {t : TypeId} {x : Operand} {v : Value} {D : TypeDesc} (hu : P.underlying t = some D) (hk : XD P n ops Q rest J A ((d, .iface t v) :: e)) (hi : ops[i]? = some ⟨some d, .makeInterface t x, ty, pos, af, gd⟩ := by exact rfl) (hg : want ops e gd = some true := by exact rfl) (hx : ev e x = some v := by exact rfl) (hD : (match D with | .interface _ => false | _ => true) = true := by exact rfl) (hd : Nat.ble (d + 1) n.sz = true := by exact rfl) : XD P n ops Q (i :: rest) J A e :=
  X_iface hi hg hx hu hD hd hk
end
end Go.Esp
