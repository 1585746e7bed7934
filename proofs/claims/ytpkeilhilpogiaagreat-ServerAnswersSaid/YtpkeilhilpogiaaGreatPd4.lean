/-
  Texts of this claim, one behind the other: ServL, V9, V10, V8, ServA, V12, Rules12, KeepL, ServW, V13, V14, V15, V16, V17, SortI, V18, V19, V20, Core2, Rules13, ServT, V21.
-/
import Derived.Test.YtpkeilhilpogiaaGreatPd3
/-
  What a server does, in plain Lean: what stays right.
-/
set_option linter.unusedSimpArgs false
set_option linter.unusedVariables false
set_option linter.unnecessarySimpa false
namespace Go.Esp
/-- Said, and not looked into. -/
def Hid (p : Prop) : Prop := p
theorem celz_ok : IsCel Cel.zero := by unfold IsCel ValOk MarksOk Cel.zero; exact ⟨⟨by decide, .inr rfl⟩, (fun m hm => by cases hm), List.Pairwise.nil⟩
theorem ans_ok {a : AnswerV} (h : AnsOk a) : OkAnswer a := by
  obtain ⟨h1, h2⟩ := h
  refine ⟨by rcases h2 with h2 | h2 <;> simp [h2], ?_, .inr h1⟩
  rw [h1]; exact Nat.zero_le _
theorem goesC_ok {c : Cel} {o : OpV} (h : IsCel c) (ho : IsOp o) (hk : ¬ o.kind = 1) : IsCel (goesC c o).1 ∧ AnsOk (goesC c o).2.1 ∧ ofM (goesC c o).1.marks o.client = some ⟨o.client, o.req, (goesC c o).2.1⟩ ∧ ((goesC c o).2.2.1 = true → (goesC c o).2.1.code = 0) := by
  have key : ∀ a, AnsOk a → MarksOk (markC c o a) ∧ ofM (markC c o a) o.client = some ⟨o.client, o.req, a⟩ := fun a ha => by
    have hm := putM_ok h.2 (m := ⟨o.client, o.req, a⟩) ⟨ho.1, ha⟩
    exact ⟨hm, ofM_mem hm.2 (x := ⟨o.client, o.req, a⟩) (by unfold putM; exact List.mem_append_right _ (.head _))⟩
  unfold goesC
  split
  · have ha : AnsOk ⟨8, c.version, c.has, ⟨#[]⟩⟩ := ⟨rfl, .inr rfl⟩
    exact ⟨⟨h.1, (key _ ha).1⟩, ha, (key _ ha).2, fun e => by cases e⟩
  · have ha : AnsOk ⟨0, w64 (c.version + 1), (!decide (o.kind = 4)), ⟨#[]⟩⟩ := ⟨rfl, .inl rfl⟩
    refine ⟨⟨?_, (key _ ha).1⟩, ha, (key _ ha).2, fun _ => rfl⟩
    unfold ValOk
    rcases ho.2 with h9 | h9 | h9 | h9
    · exact absurd h9.1 hk
    · simp only [h9.2]
      exact ⟨by decide, .inr trivial⟩
    · exact ⟨by show (o.val.size : Int) ≤ 2048; omega, .inl (by show (!decide (o.kind = 4)) = true; rw [h9.1]; rfl)⟩
    · exact ⟨by show (o.val.size : Int) ≤ 2048; omega, .inl (by show (!decide (o.kind = 4)) = true; rw [h9.1]; rfl)⟩
theorem doC_ok {c : Cel} {o : OpV} (h : IsCel c) (ho : IsOp o) : IsCel (doC c o).1 ∧ OkAnswer (doC c o).2.1 ∧ ((doC c o).2.2.1 = true → AnsOk (doC c o).2.1 ∧ (doC c o).2.1.code = 0) := by
  by_cases hk : o.kind = 1
  · rw [doC_get h ho hk]
    exact ⟨h, ⟨.inl rfl, by have := h.1.1; show c.val.size ≤ 2048; omega, h.1.2⟩, fun e => by cases e⟩
  have hg := goesC_ok h ho hk
  cases hm : ofM c.marks o.client with
  | none =>
    rw [doC_new h ho hk hm]
    exact ⟨hg.1, ans_ok hg.2.1, fun e => ⟨hg.2.1, hg.2.2.2 e⟩⟩
  | some m =>
    rw [doC_is h ho hk hm]
    split
    · have hmm : m ∈ c.marks := List.mem_of_find?_eq_some hm
      exact ⟨h, ans_ok (h.2.1 m hmm).2, fun e => by cases e⟩
    · split
      · exact ⟨h, ⟨.inr (.inr (.inr rfl)), Nat.zero_le _, .inr rfl⟩, fun e => by cases e⟩
      · exact ⟨hg.1, ans_ok hg.2.1, fun e => ⟨hg.2.1, hg.2.2.2 e⟩⟩
theorem findP_some {s : List Hd} {k : Plc} {c : Cel} (h : findS s k = some c) : findP s k = (c, true) := by unfold findP; rw [h]
theorem findP_none {s : List Hd} {k : Plc} (h : findS s k = none) : findP s k = (Cel.zero, false) := by unfold findP; rw [h]
theorem findP_ok {s : List Hd} (h : StOk s) (k : Plc) : IsCel (findP s k).1 := by
  cases e : findS s k with
  | none => rw [findP_none e]; exact celz_ok
  | some c => rw [findP_some e]; exact h.1 _ (findS_some e)
theorem putR_ok {s : List Hd} (h : IsSt s) {k : Plc} {c : Cel} (hc : IsCel c) : ((putR s k c).2 = 0 ∧ (putR s k c).1 = withS s k c ∧ IsSt (withS s k c)) ∨ (putR s k c).2 = 12 := by
  unfold putR
  rw [if_pos ⟨h, hc⟩]
  by_cases e : 2000 < (withS s k c).length
  · rw [if_pos e]; exact .inr rfl
  · rw [if_neg e]; exact .inl ⟨rfl, rfl, by omega, withS_ok h.2 hc⟩
theorem findS_withk {s : List Hd} (h : StOk s) {k : Plc} {c : Cel} : findS (withS s k c) k = some c := by rw [findS_with h.2, if_pos rfl]
/-! The others. -/
theorem upto_mem {ad : List Int} {n : Nat} {a : Int} : a ∈ uptoR ad n ↔ a ∈ ad ∧ 0 ≤ a ∧ a < n := by
  unfold uptoR
  simp only [List.mem_filter, List.mem_map, List.mem_range, decide_eq_true_eq]
  constructor
  · rintro ⟨⟨j, h1, rfl⟩, h2⟩; exact ⟨h2, by omega, by omega⟩
  · rintro ⟨h1, h2, h3⟩; exact ⟨⟨a.toNat, by omega, by omega⟩, h1⟩
theorem upto_sorted {ad : List Int} {n : Nat} : (uptoR ad n).Pairwise (fun x y => x < y) := by
  unfold uptoR
  refine List.Pairwise.filter _ ?_
  rw [List.pairwise_map]
  exact (List.pairwise_lt_range (n := n)).imp (fun h => by omega)
theorem nodup_len {a b : List Int} (ha : a.Nodup) (h : ∀ x ∈ a, x ∈ b) : a.length ≤ b.length := by
  induction a generalizing b with
  | nil => exact Nat.zero_le _
  | cons x a ih =>
    have hx := h x (.head _)
    have h1 : ∀ y ∈ a, y ∈ b.erase x := fun y hy => by
      refine (List.mem_erase_of_ne ?_).2 (h y (.tail _ hy))
      rintro rfl
      exact (List.nodup_cons.1 ha).1 hy
    have := ih (List.nodup_cons.1 ha).2 h1
    rw [List.length_erase_of_mem hx] at this
    have : 0 < b.length := List.length_pos_of_mem hx
    simp only [List.length_cons]
    omega
theorem upto_short {ad : List Int} {n : Nat} : (uptoR ad n).length ≤ ad.length := nodup_len (upto_sorted.imp (fun h => by omega)) fun x hx => (upto_mem.1 hx).1
theorem copies_len {l : List PeerV} {x : Plc} {r : Int} (hr : 1 ≤ r ∧ r ≤ 8) : (copiesR l x r).1.length ≤ 8 := by
  unfold copiesR
  split
  · simp only [List.length_map, List.length_range]; omega
  · exact Nat.zero_le _
theorem others_ok {l : List PeerV} {r : Int} (hr : 1 ≤ r ∧ r ≤ 8) (key : Plc) : NeedOk (othersR l r key) ∧ (othersR l r key).length ≤ 7 := by
  refine ⟨⟨fun a ha => ?_, upto_sorted⟩, ?_⟩
  · have := upto_mem.1 ha; omega
  · have h1 := upto_short (ad := addrsR l (copiesR l key r).1) (n := 1000)
    have h2 := copies_len (l := l) (x := key) hr
    rw [addrs_len] at h1
    unfold othersR
    omega
theorem waitR_mem {l : List Wt} {w x : Wt} : x ∈ waitR l w ↔ x = w ∨ x ∈ l := by
  unfold waitR
  rw [List.mem_append, List.mem_cons]
  conv => rhs; rw [← List.takeWhile_append_dropWhile (p := fun x : Wt => decide (LessP x.key w.key)) (l := l), List.mem_append]
  constructor
  · rintro (h | h | h)
    · exact .inr (.inl h)
    · exact .inl h
    · exact .inr (.inr h)
  · rintro (h | h | h)
    · exact .inr (.inl h)
    · exact .inl h
    · exact .inr (.inr h)
theorem takeW_all {α : Type} {p : α → Bool} : ∀ {l : List α} {x : α}, x ∈ l.takeWhile p → p x = true
  | [], x, h => by cases h
  | y :: l, x, h => by
    rw [List.takeWhile_cons] at h
    split at h
    · rcases List.mem_cons.1 h with h | h
      · subst h; assumption
      · exact takeW_all h
    · cases h
theorem dropW_head {α : Type} {p : α → Bool} : ∀ {l : List α} {x : α} {t : List α}, l.dropWhile p = x :: t → p x = false
  | [], x, t, h => by cases h
  | y :: l, x, t, h => by
    rw [List.dropWhile_cons] at h
    split at h
    · exact dropW_head h
    · rename_i h9
      cases h
      simpa using h9
theorem waitR_ok {l : List Wt} {w : Wt} (h : WtsOk l) (hw : WtOk w) (hn : ∀ x ∈ l, x.key ≠ w.key) : WtsOk (waitR l w) := by
  refine ⟨fun x hx => ?_, ?_⟩
  · rcases waitR_mem.1 hx with rfl | hx
    · exact hw
    · exact h.1 x hx
  · unfold waitR
    rw [List.pairwise_append, List.pairwise_cons]
    have hsub : ∀ x ∈ l.dropWhile (fun x : Wt => decide (LessP x.key w.key)), LessP w.key x.key := fun x hx => by
      cases e : l.dropWhile (fun x : Wt => decide (LessP x.key w.key)) with
      | nil => rw [e] at hx; cases hx
      | cons y t =>
        have hy := dropW_head e
        simp only [decide_eq_false_iff_not] at hy
        have hyl : y ∈ l := (List.dropWhile_sublist _).subset (e ▸ List.mem_cons_self)
        have hwy : LessP w.key y.key := by
          rcases less_tri w.key y.key with h9 | h9 | h9
          · exact h9
          · exact absurd h9.symm (hn y hyl)
          · exact absurd h9 hy
        rw [e] at hx
        rcases List.mem_cons.1 hx with rfl | hx
        · exact hwy
        · have hp := h.2.sublist (List.dropWhile_sublist (fun x : Wt => decide (LessP x.key w.key)))
          rw [e, List.pairwise_cons] at hp
          exact Nat.lt_trans hwy (hp.1 x hx)
    refine ⟨h.2.sublist (List.takeWhile_sublist _), ⟨hsub, h.2.sublist (List.dropWhile_sublist _)⟩, fun a ha b hb => ?_⟩
    have ha' := takeW_all ha
    simp only [decide_eq_true_eq] at ha'
    rcases List.mem_cons.1 hb with rfl | hb
    · exact ha'
    · exact Nat.lt_trans ha' (hsub b hb)
/-! A request, by cases. -/
theorem req_none {s : Srv} {l : List PeerV} {r : Int} {p : Prc} (h : (l.getD (ownerI l p.key) ⟨0, 0⟩).addr ≠ s.addr) : requestR s l r p = (s, [replyR s p.op.client p.op.req ⟨7, 0, false, ⟨#[]⟩⟩]) := if_pos h
theorem req_wait {s : Srv} {l : List PeerV} {r : Int} {p : Prc} (h : (l.getD (ownerI l p.key) ⟨0, 0⟩).addr = s.addr) {w : Wt} (hf : (s.waits.find? fun w => decide (w.key = p.key)) = some w) : requestR s l r p = (s, copiesP s p.key w.serial w.need) := by
  unfold requestR; rw [if_neg (fun e => e h), hf]
theorem req_get {s : Srv} {l : List PeerV} {r : Int} {p : Prc} (h : (l.getD (ownerI l p.key) ⟨0, 0⟩).addr = s.addr) (hf : (s.waits.find? fun w => decide (w.key = p.key)) = none) (hk : p.op.kind = 1) {D1 : Cel} {da : AnswerV} {db : Bool} {de : Int} (hD : doC (findP s.store p.key).1 p.op = (D1, da, db, de)) : requestR s l r p = (s, [replyR s p.op.client p.op.req da]) := by
  unfold requestR; rw [if_neg (fun e => e h), hf]; simp only; rw [if_pos hk, hD]
theorem req_full {s : Srv} {l : List PeerV} {r : Int} {p : Prc} (h : (l.getD (ownerI l p.key) ⟨0, 0⟩).addr = s.addr) (hf : (s.waits.find? fun w => decide (w.key = p.key)) = none) (hk : ¬ p.op.kind = 1) {D1 : Cel} {da : AnswerV} {db : Bool} {de : Int} (hD : doC (findP s.store p.key).1 p.op = (D1, da, db, de)) {Q1 : List Hd} {qe : Int} (hQ : putR s.store p.key D1 = (Q1, qe)) (hq : ¬ qe = 0) : requestR s l r p = (s, []) := by
  unfold requestR; rw [if_neg (fun e => e h), hf]; simp only; rw [if_neg hk, hD, hQ, if_pos hq]
theorem req_done {s : Srv} {l : List PeerV} {r : Int} {p : Prc} (h : (l.getD (ownerI l p.key) ⟨0, 0⟩).addr = s.addr) (hf : (s.waits.find? fun w => decide (w.key = p.key)) = none) (hk : ¬ p.op.kind = 1) {D1 : Cel} {da : AnswerV} {db : Bool} {de : Int} (hD : doC (findP s.store p.key).1 p.op = (D1, da, db, de)) {Q1 : List Hd} {qe : Int} (hQ : putR s.store p.key D1 = (Q1, qe)) (hq : qe = 0) {t : List Int} (ht : t = othersR l r p.key) (hd : db = false ∨ t = []) : requestR s l r p = (⟨s.addr, s.epoch, Q1, s.waits, s.serial⟩, [replyR s p.op.client p.op.req da]) := by
  unfold requestR; rw [← ht, if_neg (fun e => e h), hf]; simp only; rw [if_neg hk, hD, hQ, if_neg (fun e => e hq), if_pos hd]; rfl
theorem req_more {s : Srv} {l : List PeerV} {r : Int} {p : Prc} (h : (l.getD (ownerI l p.key) ⟨0, 0⟩).addr = s.addr) (hf : (s.waits.find? fun w => decide (w.key = p.key)) = none) (hk : ¬ p.op.kind = 1) {D1 : Cel} {da : AnswerV} {db : Bool} {de : Int} (hD : doC (findP s.store p.key).1 p.op = (D1, da, db, de)) {Q1 : List Hd} {qe : Int} (hQ : putR s.store p.key D1 = (Q1, qe)) (hq : qe = 0) {t : List Int} (ht : t = othersR l r p.key) (hd : ¬ (db = false ∨ t = [])) {v : Int} (hv : w64 (s.serial + 1) = v) {W : List Wt} (hW : W = waitR s.waits ⟨p.key, p.op.client, p.op.req, da, v, t⟩) : requestR s l r p = (⟨s.addr, s.epoch, Q1, W, v⟩, copiesP ⟨s.addr, s.epoch, Q1, W, v⟩ p.key v t) := by
  unfold requestR; rw [← ht, if_neg (fun e => e h), hf]; simp only; rw [if_neg hk, hD, hQ, if_neg (fun e => e hq), if_neg hd, hv, ← hW]
def RqE (M : Mem) (v : Value) (r : Srv × List Pst) : Prop := ∃ (s : ServerV) (x : Sl PostV), v = .tuple #[s.enc, x.val] ∧ s.pl = r.1 ∧ pstl x.l = r.2 ∧ ServerV.ok M s ∧ SlK M PostV.segs 37 x ∧ ∀ y ∈ x.l, PostV.ok M y
/-- What a request does, by cases. -/
theorem req_cases (s : Srv) (l : List PeerV) (r : Int) (p : Prc) :
    ((l.getD (ownerI l p.key) ⟨0, 0⟩).addr ≠ s.addr ∧ requestR s l r p = (s, [replyR s p.op.client p.op.req ⟨7, 0, false, ⟨#[]⟩⟩])) ∨
    (∃ w, (l.getD (ownerI l p.key) ⟨0, 0⟩).addr = s.addr ∧ (s.waits.find? fun w => decide (w.key = p.key)) = some w ∧ requestR s l r p = (s, copiesP s p.key w.serial w.need)) ∨
    ((l.getD (ownerI l p.key) ⟨0, 0⟩).addr = s.addr ∧ (s.waits.find? fun w => decide (w.key = p.key)) = none ∧ p.op.kind = 1 ∧ requestR s l r p = (s, [replyR s p.op.client p.op.req (doC (findP s.store p.key).1 p.op).2.1])) ∨
    ((l.getD (ownerI l p.key) ⟨0, 0⟩).addr = s.addr ∧ (s.waits.find? fun w => decide (w.key = p.key)) = none ∧ ¬ p.op.kind = 1 ∧ (putR s.store p.key (doC (findP s.store p.key).1 p.op).1).2 ≠ 0 ∧ requestR s l r p = (s, [])) ∨
    ((l.getD (ownerI l p.key) ⟨0, 0⟩).addr = s.addr ∧ (s.waits.find? fun w => decide (w.key = p.key)) = none ∧ ¬ p.op.kind = 1 ∧ (putR s.store p.key (doC (findP s.store p.key).1 p.op).1).2 = 0 ∧ ((doC (findP s.store p.key).1 p.op).2.2.1 = false ∨ othersR l r p.key = []) ∧
      requestR s l r p = (⟨s.addr, s.epoch, (putR s.store p.key (doC (findP s.store p.key).1 p.op).1).1, s.waits, s.serial⟩, [replyR s p.op.client p.op.req (doC (findP s.store p.key).1 p.op).2.1])) ∨
    (∃ (W : List Wt) (v : Int) (to : List Int), (l.getD (ownerI l p.key) ⟨0, 0⟩).addr = s.addr ∧ (s.waits.find? fun w => decide (w.key = p.key)) = none ∧ ¬ p.op.kind = 1 ∧ (putR s.store p.key (doC (findP s.store p.key).1 p.op).1).2 = 0 ∧ (doC (findP s.store p.key).1 p.op).2.2.1 = true ∧ othersR l r p.key = to ∧ to ≠ [] ∧
      v = w64 (s.serial + 1) ∧ W = waitR s.waits ⟨p.key, p.op.client, p.op.req, (doC (findP s.store p.key).1 p.op).2.1, v, to⟩ ∧
      requestR s l r p = (⟨s.addr, s.epoch, (putR s.store p.key (doC (findP s.store p.key).1 p.op).1).1, W, v⟩, copiesP ⟨s.addr, s.epoch, (putR s.store p.key (doC (findP s.store p.key).1 p.op).1).1, W, v⟩ p.key v to)) := by
  by_cases h : (l.getD (ownerI l p.key) ⟨0, 0⟩).addr = s.addr
  · refine .inr ?_
    cases hf : s.waits.find? fun w => decide (w.key = p.key) with
    | some w => exact .inl ⟨w, h, rfl, req_wait h hf⟩
    | none =>
      refine .inr ?_
      by_cases hk : p.op.kind = 1
      · exact .inl ⟨h, rfl, hk, req_get h hf hk rfl⟩
      refine .inr ?_
      by_cases hq : (putR s.store p.key (doC (findP s.store p.key).1 p.op).1).2 = 0
      · refine .inr ?_
        obtain ⟨to, ht⟩ : ∃ to, othersR l r p.key = to := ⟨_, rfl⟩
        rw [ht]
        by_cases hd : (doC (findP s.store p.key).1 p.op).2.2.1 = false ∨ to = []
        · exact .inl ⟨h, rfl, hk, hq, hd, req_done h hf hk rfl rfl hq ht.symm hd⟩
        · refine .inr ⟨_, _, to, h, rfl, hk, hq, ?_, rfl, fun e => hd (.inr e), rfl, rfl, req_more h hf hk rfl rfl hq ht.symm hd rfl rfl⟩
          cases e : (doC (findP s.store p.key).1 p.op).2.2.1 with
          | true => rfl
          | false => exact absurd (.inl e) hd
      · exact .inl ⟨h, rfl, hk, hq, req_full h hf hk rfl rfl hq⟩
  · exact .inl ⟨h, req_none h⟩
/-! What is sent is right. -/
def Sent (e : Int) (x : Pst) : Prop := IsPrc x.parcel ∧ x.parcel.epoch = e
theorem reply_sent {s : Srv} {c q : Int} {a : AnswerV} (hc : 0 ≤ c ∧ c ≤ 63) (ha : OkAnswer a) : Sent s.epoch (replyR s c q a) :=
  ⟨.inr (.inl ⟨rfl, rfl, rfl, hc.1, hc.2, ha, rfl, bare_zero.2 rfl⟩), rfl⟩
theorem copies_sent {s : Srv} (h : StOk s.store) {k : Plc} {n : Int} {to : List Int} : ∀ x ∈ copiesP s k n to, Sent s.epoch x := fun x hx => by
  obtain ⟨t, _, rfl⟩ := List.mem_map.1 hx
  exact ⟨.inr (.inr (.inl ⟨rfl, rfl, rfl, findP_ok h k⟩)), rfl⟩
theorem stay_request {s : Srv} {l : List PeerV} {r : Int} {p : Prc} (hs : IsSrv s) (hr : 1 ≤ r ∧ r ≤ 8) (hop : IsOp p.op) :
    IsSrv (requestR s l r p).1 ∧ (requestR s l r p).1.addr = s.addr ∧ (requestR s l r p).1.epoch = s.epoch ∧ ∀ x ∈ (requestR s l r p).2, Sent s.epoch x := by
  have hcl := hop.1
  have hd := doC_ok (findP_ok hs.2.2.2 p.key) hop
  have hp := putR_ok hs.2.2 (k := p.key) hd.1
  rcases req_cases s l r p with ⟨_, e⟩ | ⟨w, _, _, e⟩ | ⟨_, _, _, e⟩ | ⟨_, _, _, _, e⟩ | ⟨_, _, _, hq, _, e⟩ | ⟨W, v, to, _, hf, _, hq, hrose, hto, hne, hv, hW, e⟩ <;> rw [e]
  · refine ⟨hs, rfl, rfl, fun x hx => ?_⟩
    obtain rfl := List.mem_singleton.1 hx
    exact reply_sent hcl ⟨.inr (.inr (.inl rfl)), Nat.zero_le _, .inr rfl⟩
  · exact ⟨hs, rfl, rfl, copies_sent hs.2.2.2⟩
  · refine ⟨hs, rfl, rfl, fun x hx => ?_⟩
    obtain rfl := List.mem_singleton.1 hx
    exact reply_sent hcl hd.2.1
  · exact ⟨hs, rfl, rfl, fun x hx => by cases hx⟩
  · rcases hp with ⟨_, hp1, hp2⟩ | hp
    · refine ⟨⟨hs.1, hs.2.1, by rw [hp1]; exact hp2⟩, rfl, rfl, fun x hx => ?_⟩
      obtain rfl := List.mem_singleton.1 hx
      exact reply_sent hcl hd.2.1
    · rw [hq] at hp; cases hp
  · rcases hp with ⟨_, hp1, hp2⟩ | hp
    · have ho := others_ok (l := l) hr p.key
      rw [hto] at ho
      have hpos : 1 ≤ to.length := by
        rcases Nat.eq_zero_or_pos to.length with h0 | h0
        · exact absurd (List.eq_nil_of_length_eq_zero h0) hne
        · exact h0
      obtain ⟨ha1, ha2⟩ := hd.2.2 hrose
      have hww : WtsOk W := by
        rw [hW]
        refine waitR_ok hs.1 ⟨ho.1, ⟨hpos, by show to.length ≤ 8; omega⟩, hcl, ha1.1, ha2⟩ fun x hx e => ?_
        have := List.find?_eq_none.1 hf x hx
        exact absurd (decide_eq_true e) this
      have hst : IsSrv ⟨s.addr, s.epoch, (putR s.store p.key (doC (findP s.store p.key).1 p.op).1).1, W, v⟩ := ⟨hww, hs.2.1, by rw [hp1]; exact hp2⟩
      exact ⟨hst, rfl, rfl, copies_sent (s := ⟨s.addr, s.epoch, (putR s.store p.key (doC (findP s.store p.key).1 p.op).1).1, W, v⟩) hst.2.2.2⟩
    · rw [hq] at hp; cases hp
theorem stay_copy {s : Srv} {from_ : Int} {p : Prc} (hs : IsSrv s) (hc : IsCel p.cell) :
    IsSrv (copyR s from_ p).1 ∧ (copyR s from_ p).1.addr = s.addr ∧ (copyR s from_ p).1.epoch = s.epoch ∧ ∀ x ∈ (copyR s from_ p).2, Sent s.epoch x := by
  have hm : IsCel (copyM s p) := by
    unfold copyM
    cases e : findS s.store p.key with
    | none => exact hc
    | some c => exact mergedT_ok (hs.2.2.2.1 _ (findS_some e)) hc
  unfold copyR
  simp only
  generalize copyM s p = m at hm ⊢
  rcases putR_ok hs.2.2 (k := p.key) hm with ⟨h0, h1, h2⟩ | h0
  · rw [if_neg (fun e => e h0)]
    refine ⟨⟨hs.1, hs.2.1, by rw [h1]; exact h2⟩, rfl, rfl, fun x hx => ?_⟩
    obtain rfl := List.mem_singleton.1 hx
    exact ⟨.inr (.inr (.inr ⟨rfl, rfl, rfl, rfl, bare_zero.2 rfl⟩)), rfl⟩
  · rw [if_pos (by rw [h0]; decide)]
    exact ⟨hs, rfl, rfl, fun x hx => by cases hx⟩
theorem less_ok {w : Wt} (h : NeedOk w.need) (f : Int) : NeedOk (lessN w f) := ⟨fun a ha => h.1 a ((List.mem_filter.1 ha).1), h.2.sublist List.filter_sublist⟩
theorem stays1_key {f n : Int} {w w' : Wt} (h : stays1 f n w = some w') : w'.key = w.key := by
  unfold stays1 at h
  split at h
  · cases h; rfl
  · split at h
    · cases h
    · cases h; rfl
theorem stays1_ok {f n : Int} {w w' : Wt} (h : stays1 f n w = some w') (hw : WtOk w) : WtOk w' := by
  unfold stays1 at h
  split at h
  · cases h; exact hw
  · split at h
    · cases h
    · rename_i hne
      cases h
      refine ⟨less_ok hw.1 f, ⟨?_, Nat.le_trans (List.length_filter_le ..) hw.2.1.2⟩, hw.2.2⟩
      rcases Nat.eq_zero_or_pos (lessN w f).length with h0 | h0
      · exact absurd (List.eq_nil_of_length_eq_zero h0) hne
      · exact h0
theorem stay_copied {s : Srv} {from_ serial : Int} (hs : IsSrv s) :
    IsSrv (copiedR s from_ serial).1 ∧ (copiedR s from_ serial).1.addr = s.addr ∧ (copiedR s from_ serial).1.epoch = s.epoch ∧ ∀ x ∈ (copiedR s from_ serial).2, Sent s.epoch x := by
  refine ⟨⟨⟨fun w hw => ?_, ?_⟩, hs.2⟩, rfl, rfl, fun x hx => ?_⟩
  · obtain ⟨w0, h0, h1⟩ := List.mem_filterMap.1 hw
    exact stays1_ok h1 (hs.1.1 _ h0)
  · show (s.waits.filterMap (stays1 from_ serial)).Pairwise _
    refine List.Pairwise.filterMap (stays1 from_ serial) (fun a a' ha b hb b' hb' => ?_) hs.1.2
    rw [stays1_key hb, stays1_key hb']; exact ha
  · obtain ⟨w0, h0, h1⟩ := List.mem_filterMap.1 hx
    have hw := hs.1.1 _ h0
    unfold done1 at h1
    split at h1
    · cases h1
      exact reply_sent hw.2.2.1 ⟨.inl hw.2.2.2.2, by rw [hw.2.2.2.1]; exact Nat.zero_le _, .inr hw.2.2.2.1⟩
    · cases h1
/-! What Take hands back, by cases. -/
theorem copyM_some {s : Srv} {p : Prc} {c : Cel} (h : findS s.store p.key = some c) : copyM s p = mergedT c p.cell := by unfold copyM; rw [h]
theorem copyM_none {s : Srv} {p : Prc} (h : findS s.store p.key = none) : copyM s p = p.cell := by unfold copyM; rw [h]
theorem copyR_no {s : Srv} {f : Int} {p : Prc} {m : Cel} (hm : copyM s p = m) {Q : List Hd} {qe : Int} (hQ : putR s.store p.key m = (Q, qe)) (h : ¬ qe = 0) : copyR s f p = (s, []) := by
  unfold copyR; rw [hm, hQ]; exact if_pos h
theorem copyR_yes {s : Srv} {f : Int} {p : Prc} {m : Cel} (hm : copyM s p = m) {Q : List Hd} {qe : Int} (hQ : putR s.store p.key m = (Q, qe)) (h : qe = 0) : copyR s f p = (⟨s.addr, s.epoch, Q, s.waits, s.serial⟩, [⟨f, ⟨4, s.epoch, 0, OpV.zero, AnswerV.zero, p.serial, Cel.zero⟩⟩]) := by
  unfold copyR; rw [hm, hQ]; exact if_neg (fun e => e h)
def TakeOk (s : Srv) (l : List PeerV) (r : Int) (p : Prc) : Prop := IsSrv s ∧ IsCircle l ∧ (1 ≤ r ∧ r ≤ 8) ∧ IsPrc p
theorem srvR_no {s : Srv} {l : List PeerV} {r f : Int} {p : Prc} (h : ¬ TakeOk s l r p) : srvR s l r f p = (Srv.zero, [], 1) := if_neg h
theorem srvR_yes {s : Srv} {l : List PeerV} {r f : Int} {p : Prc} (h : TakeOk s l r p) : srvR s l r f p = if p.epoch ≠ s.epoch then (s, [], 0)
    else if p.kind = 1 then ((requestR s l r p).1, (requestR s l r p).2, 0)
    else if p.kind = 3 then ((copyR s f p).1, (copyR s f p).2, 0)
    else if p.kind = 4 then ((copiedR s f p.serial).1, (copiedR s f p.serial).2, 0)
    else (s, [], 0) := if_pos h
theorem srvR_ep {s : Srv} {l : List PeerV} {r f : Int} {p : Prc} (h : TakeOk s l r p) (he : p.epoch ≠ s.epoch) : srvR s l r f p = (s, [], 0) := by rw [srvR_yes h, if_pos he]
theorem srvR_req {s : Srv} {l : List PeerV} {r f : Int} {p : Prc} (h : TakeOk s l r p) (he : p.epoch = s.epoch) (hk : p.kind = 1) : srvR s l r f p = ((requestR s l r p).1, (requestR s l r p).2, 0) := by rw [srvR_yes h, if_neg (fun e => e he), if_pos hk]
theorem srvR_copy {s : Srv} {l : List PeerV} {r f : Int} {p : Prc} (h : TakeOk s l r p) (he : p.epoch = s.epoch) (hk : p.kind = 3) : srvR s l r f p = ((copyR s f p).1, (copyR s f p).2, 0) := by
  rw [srvR_yes h, if_neg (fun e => e he), if_neg (by omega), if_pos hk]
theorem srvR_copied {s : Srv} {l : List PeerV} {r f : Int} {p : Prc} (h : TakeOk s l r p) (he : p.epoch = s.epoch) (hk : p.kind = 4) : srvR s l r f p = ((copiedR s f p.serial).1, (copiedR s f p.serial).2, 0) := by
  rw [srvR_yes h, if_neg (fun e => e he), if_neg (by omega), if_neg (by omega), if_pos hk]
theorem srvR_else {s : Srv} {l : List PeerV} {r f : Int} {p : Prc} (h : TakeOk s l r p) (he : p.epoch = s.epoch) (h1 : ¬ p.kind = 1) (h3 : ¬ p.kind = 3) (h4 : ¬ p.kind = 4) : srvR s l r f p = (s, [], 0) := by
  rw [srvR_yes h, if_neg (fun e => e he), if_neg h1, if_neg h3, if_neg h4]
theorem prc_op {p : Prc} (h : IsPrc p) (hk : p.kind = 1) : IsOp p.op := by
  rcases h with h | h | h | h
  · exact h.2.1
  · exact absurd (h.1.symm.trans hk) (by decide)
  · exact absurd (h.1.symm.trans hk) (by decide)
  · exact absurd (h.1.symm.trans hk) (by decide)
theorem prc_cel {p : Prc} (h : IsPrc p) (hk : p.kind = 3) : IsCel p.cell := by
  rcases h with h | h | h | h
  · exact absurd (h.1.symm.trans hk) (by decide)
  · exact absurd (h.1.symm.trans hk) (by decide)
  · exact h.2.2.2
  · exact absurd (h.1.symm.trans hk) (by decide)
theorem stay_take {s : Srv} {l : List PeerV} {r f : Int} {p : Prc} (h : TakeOk s l r p) : (srvR s l r f p).2.2 = 0 ∧ IsSrv (srvR s l r f p).1 ∧ (srvR s l r f p).1.addr = s.addr ∧ (srvR s l r f p).1.epoch = s.epoch ∧ (∀ x ∈ (srvR s l r f p).2.1, Sent s.epoch x) ∧ (p.epoch ≠ s.epoch → srvR s l r f p = (s, [], 0)) := by
  by_cases he : p.epoch = s.epoch
  · have hn : p.epoch ≠ s.epoch → srvR s l r f p = (s, [], 0) := fun e => absurd he e
    by_cases h1 : p.kind = 1
    · rw [srvR_req h he h1] at hn ⊢
      have h9 := stay_request (l := l) (r := r) (p := p) h.1 h.2.2.1 (prc_op h.2.2.2 h1)
      exact ⟨rfl, h9.1, h9.2.1, h9.2.2.1, h9.2.2.2, hn⟩
    · by_cases h3 : p.kind = 3
      · rw [srvR_copy h he h3] at hn ⊢
        have h9 := stay_copy (from_ := f) (p := p) h.1 (prc_cel h.2.2.2 h3)
        exact ⟨rfl, h9.1, h9.2.1, h9.2.2.1, h9.2.2.2, hn⟩
      · by_cases h4 : p.kind = 4
        · rw [srvR_copied h he h4] at hn ⊢
          have h9 := stay_copied (from_ := f) (serial := p.serial) h.1
          exact ⟨rfl, h9.1, h9.2.1, h9.2.2.1, h9.2.2.2, hn⟩
        · rw [srvR_else h he h1 h3 h4]
          exact ⟨rfl, h.1, rfl, rfl, (fun x hx => by cases hx), fun _ => rfl⟩
  · rw [srvR_ep h he]
    exact ⟨rfl, h.1, rfl, rfl, (fun x hx => by cases hx), fun _ => rfl⟩
end Go.Esp
/-
  What one told does, as the document has it.
-/
set_option linter.unusedSimpArgs false
set_option linter.unusedVariables false
set_option linter.unnecessarySimpa false
set_option maxRecDepth 8000
set_option maxHeartbeats 1000000
namespace Go.Proofs.YtpkeilhilpogiaaGreat
open Go.Esp
theorem F.foff54_2 : foff Tryz.prog 54 2 = some 21 := by kernel_rfl
theorem F.foff54_4 : foff Tryz.prog 54 4 = some 26 := by kernel_rfl
end Go.Proofs.YtpkeilhilpogiaaGreat
/-
  The same servers, waits, posts; what is large.
-/
set_option linter.unusedSimpArgs false
set_option linter.unusedVariables false
set_option linter.unnecessarySimpa false
set_option maxRecDepth 8000
set_option maxHeartbeats 1000000
namespace Go.Proofs.YtpkeilhilpogiaaGreat
open Go.Esp
theorem F.foff26_4 : foff Tryz.prog 26 4 = some 4 := by kernel_rfl
theorem F.foff51_0 : foff Tryz.prog 51 0 = some 0 := by kernel_rfl
theorem F.foff51_1 : foff Tryz.prog 51 1 = some 1 := by kernel_rfl
theorem F.ok21 : okFn Tryz.prog 21 = true := by kernel_rfl
theorem F.ok22 : okFn Tryz.prog 22 = true := by kernel_rfl
theorem Big17_ok (M : Mem) (c : CellV) (hc0 : CellV.ok M c) : Fs Tryz.prog 22 [c.enc] M (fun v => ∃ b : Bool, v = .bool b ∧ (b = false → True)) := by
  obtain ⟨c_version, c_has, c_val, ⟨c_marks_a, c_marks_c, c_marks_l⟩⟩ := c
  have k_c_marks : SlK M MarkV.segs 6 ⟨c_marks_a, c_marks_c, c_marks_l⟩ := hc0.h0
  have s_c_marks : SlM M c_marks_a (c_marks_l.map MarkV.segs) 6 := k_c_marks.h1
  have n_c_marks : (c_marks_l.map MarkV.segs).length = c_marks_l.length := List.length_map ..
  have m_c_marks : c_marks_l.length ≤ 9223372036854775807 := k_c_marks.h2
  have c_c_marks : c_marks_l.length ≤ c_marks_c := k_c_marks.h3
  refine fs_enter Tryz.func22 rfl Tryz.ntmps22 rfl ?_; intro H
  refine C_seq ?_
  refine C_region (l := [0, 1]) rfl ?_
  refine Y_box ?_; intro b1
  refine Y_assign ?_
  refine XD_end ?_
  refine K_then ?_
  refine Y_pk [2, 1] ?_
  refine C_seq ?_
  refine C_region (l := [0, 1, 2, 3]) rfl ?_
  refine Y_fieldAddr F.foff37_2 ?_
  refine Y_load F.lay9 ?_
  refine Y_len_str Tryz.underlying9 ?_
  refine Y_assign ?_
  refine XD_end ?_
  refine K_then ?_
  refine Y_pk [3, 2, 1] ?_
  iterate 2 refine C_seq ?_
  refine C_region (l := [0]) rfl ?_
  refine Y_assign ?_
  refine XD_end ?_
  refine K_then ?_
  refine C_block ?_
  refine Y_pk [4, 3, 2, 1] ?_
  refine C_loopS (.succ (.succ .zero)) (fun (k : Nat) z => ∃ (n3 : Int), z = [(4, .int .i64 (k : Int)), (3, .int .i64 n3)] ∧ k ≤ c_marks_l.length) (fun k => c_marks_l.length - k) (0) (⟨_, rfl, by omega⟩) ?_
  rintro k _ ⟨n3, rfl, hk⟩
  iterate 2 refine C_seq ?_
  refine C_region (l := [0, 1, 2, 3, 4, 5, 6, 7, 8, 9, 10]) rfl ?_
  refine Y_move ?_
  refine Y_fieldAddr F.foff37_3 ?_
  refine Y_load F.lay35 ?_
  refine Y_len_sl F.elem35 ?_
  refine Y_cmp ?_
  refine Y_move ?_
  refine XD_part 13 rfl (fun hc2 => ?_) (fun hc2 => ?_)
  ·replace hc2 := dT hc2
   refine Y_fieldAddr F.foff37_3 ?_
   refine Y_load F.lay35 ?_
   refine Y_len_sl F.elem35 ?_
   refine Y_cmp ?_
   refine Y_pick ?_
   refine XD_end ?_
   refine K_then ?_
   refine C_cond rfl (fun hc3 => ?_) (fun hc3 => ?_)
   ·replace hc3 := dT hc3
    refine C_skip ?_
    refine K_then ?_
    refine C_seq ?_
    refine C_block ?_
    refine C_region (l := [0, 1, 2, 3, 4, 5, 6, 7, 8, 9, 10]) rfl ?_
    refine Y_move ?_
    refine Y_fieldAddr F.foff37_3 ?_
    refine Y_load F.lay35 ?_
    refine Y_move ?_
    refine X_indexAddr rfl rfl rfl rfl F.elem35 (by rfl) (by omega) (by exact SlM.plain (by assumption) (by (simp; omega))) rfl ?_
    refine X_fieldAddr_el rfl rfl rfl (by exact SlM.plain (by assumption) (by (simp; omega))) F.foff92_2 rfl ?_
    refine X_fieldAddr_el rfl rfl rfl (by exact SlM.plain (by assumption) (by (simp; omega))) F.foff34_3 rfl ?_
    refine X_load_el rfl rfl rfl (by assumption) (by exact row_map (by omega)) F.lay9 rfl rfl rfl ?_
    refine Y_len_str Tryz.underlying9 ?_
    refine X_ari rfl rfl rfl rfl rfl (by exact rfl) rfl ?_
    refine Y_assign ?_
    refine XD_end ?_
    refine K_out ?_
    refine K_then ?_
    refine C_region (l := [0, 1, 2]) rfl ?_
    refine Y_move ?_
    refine X_ari rfl rfl rfl rfl rfl (by exact wrap_in (by decide) (by omega)) rfl ?_
    refine Y_assign ?_
    refine XD_end ?_
    refine K_roundS (a' := [(4, _), (3, _)]) (k + 1) (.cons (k := 4) rfl (.cons (k := 3) rfl (.cons (k := 2) rfl (.cons (k := 1) rfl (.nil))))) (fun w hw => by first | exact hw | exact hw.c) ?_ ?_
    ·exact ⟨_, rfl, by omega⟩
    ·omega
   ·replace hc3 := dF hc3
    refine C_exit ?_
    iterate 2 refine K_exit ?_
    refine K_hit ?_
    refine K_then ?_
    refine Y_pk [3, 2, 1] ?_
    refine C_seq ?_
    refine C_region (l := [0, 1, 2, 3, 4, 5, 6, 7, 8]) rfl ?_
    refine Y_fieldAddr F.foff37_3 ?_
    refine Y_load F.lay35 ?_
    refine Y_len_sl F.elem35 ?_
    refine Y_cmp ?_
    refine Y_move ?_
    refine XD_part 35 rfl (fun hc4 => ?_) (fun hc4 => ?_)
    ·replace hc4 := dT hc4
     iterate 2 refine Y_skip ?_
     refine Y_pick ?_
     refine Y_assign ?_
     refine XD_end ?_
     refine K_then ?_
     refine Y_pk [2] ?_
     refine C_ret ?_
     refine K_end (.inr rfl) (.tmp rfl .nil) (fun w hw => ?_)
     refine ⟨_, rfl, hw.c, _, rfl, ?_⟩
     clear hw
     exact fun _ => trivial
    ·replace hc4 := dF hc4
     (exfalso; omega)
  ·replace hc2 := dF hc2
   iterate 4 refine Y_skip ?_
   refine Y_pick ?_
   refine XD_end ?_
   refine K_then ?_
   refine C_false rfl ?_
   refine C_exit ?_
   iterate 2 refine K_exit ?_
   refine K_hit ?_
   refine K_then ?_
   refine Y_pk [3, 2, 1] ?_
   refine C_seq ?_
   refine C_region (l := [0, 1, 2, 3, 4, 5, 6, 7, 8]) rfl ?_
   refine Y_fieldAddr F.foff37_3 ?_
   refine Y_load F.lay35 ?_
   refine Y_len_sl F.elem35 ?_
   refine Y_cmp ?_
   refine Y_move ?_
   refine XD_part 35 rfl (fun hc5 => ?_) (fun hc5 => ?_)
   ·replace hc5 := dT hc5
    iterate 2 refine Y_skip ?_
    refine Y_pick ?_
    refine Y_assign ?_
    refine XD_end ?_
    refine K_then ?_
    refine Y_pk [2] ?_
    refine C_ret ?_
    refine K_end (.inr rfl) (.tmp rfl .nil) (fun w hw => ?_)
    refine ⟨_, rfl, hw.c, _, rfl, ?_⟩
    clear hw
    exact fun _ => trivial
   ·replace hc5 := dF hc5
    refine Y_move ?_
    refine Y_cmp ?_
    refine Y_pick ?_
    refine Y_assign ?_
    refine XD_end ?_
    refine K_then ?_
    refine Y_pk [2] ?_
    refine C_ret ?_
    refine K_end (.inr rfl) (.tmp rfl .nil) (fun w hw => ?_)
    refine ⟨_, rfl, hw.c, _, rfl, ?_⟩
    clear hw
    exact fun _ => trivial

theorem BigS_ok (M : Mem) (s : (Sl HeldV)) (hs0 : SlK M HeldV.segs 24 s) (hs1 : ∀ y ∈ (s).l, HeldV.ok M y) : Fs Tryz.prog 21 [Sl.val s] M (fun v => ∃ b : Bool, v = .bool b ∧ (b = false → s.l.length ≤ 2010)) := by
  obtain ⟨s_a, s_c, s_l⟩ := s
  have k_s : SlK M HeldV.segs 24 ⟨s_a, s_c, s_l⟩ := hs0
  have s_s : SlM M s_a (s_l.map HeldV.segs) 24 := k_s.h1
  have n_s : (s_l.map HeldV.segs).length = s_l.length := List.length_map ..
  have m_s : s_l.length ≤ 9223372036854775807 := k_s.h2
  have c_s : s_l.length ≤ s_c := k_s.h3
  have l_s : ∀ y ∈ s_l, HeldV.ok M y := hs1
  refine fs_enter Tryz.func21 rfl Tryz.ntmps21 rfl ?_; intro H
  refine C_seq ?_
  refine C_region (l := [0]) rfl ?_
  refine Y_assign ?_
  refine XD_end ?_
  refine K_then ?_
  iterate 2 refine C_seq ?_
  refine C_region (l := [0]) rfl ?_
  refine Y_assign ?_
  refine XD_end ?_
  refine K_then ?_
  refine C_block ?_
  refine Y_pk [3, 2, 0] ?_
  refine C_loopS (.succ .zero) (fun (k : Nat) z => ∃ (_ : Unit), z = [(3, .int .i64 (k : Int))] ∧ k ≤ s_l.length) (fun k => s_l.length - k) (0) (⟨(), rfl, by omega⟩) ?_
  rintro k _ ⟨_, rfl, hk⟩
  iterate 2 refine C_seq ?_
  refine C_region (l := [0, 1, 2, 3, 4, 5, 6, 7, 8]) rfl ?_
  iterate 2 refine Y_move ?_
  refine Y_len_sl F.elem23 ?_
  refine Y_cmp ?_
  refine Y_move ?_
  refine XD_part 8 rfl (fun hc1 => ?_) (fun hc1 => ?_)
  ·replace hc1 := dT hc1
   refine Y_move ?_
   refine Y_len_sl F.elem23 ?_
   refine Y_cmp ?_
   refine Y_pick ?_
   refine XD_end ?_
   refine K_then ?_
   refine C_cond rfl (fun hc2 => ?_) (fun hc2 => ?_)
   ·replace hc2 := dT hc2
    refine C_skip ?_
    refine K_then ?_
    refine C_seq ?_
    refine C_block ?_
    refine C_seq ?_
    refine C_region (l := [0, 1, 2, 3, 4, 5]) rfl ?_
    iterate 2 refine Y_move ?_
    refine X_indexAddr rfl rfl rfl rfl F.elem23 (by rfl) (by omega) (by exact SlM.plain (by assumption) (by (simp; omega))) rfl ?_
    refine X_fieldAddr_el rfl rfl rfl (by exact SlM.plain (by assumption) (by (simp; omega))) F.foff60_1 rfl ?_
    refine X_load_el rfl rfl rfl (by assumption) (by exact row_map (by omega)) F.lay37 rfl rfl rfl ?_
    refine X_fs rfl rfl F.ok22 rfl (Big17_ok _ s_l[k].cell (l_s _ (List.getElem_mem (by omega))).h0) rfl ?_
    rintro _ ⟨bb, rfl, -⟩
    refine XD_end ?_
    refine K_then ?_
    refine C_cond rfl (fun hc3 => ?_) (fun hc3 => ?_)
    ·skip
     refine C_seq ?_
     refine C_region (l := [0]) rfl ?_
     refine Y_assign ?_
     refine XD_end ?_
     refine K_then ?_
     refine C_ret ?_
     refine K_retB ?_
     iterate 2 refine K_ret ?_
     refine K_retB ?_
     refine K_ret ?_
     refine K_end (.inr rfl) (.tmp rfl .nil) (fun w hw => ?_)
     refine ⟨_, rfl, hw.c, _, rfl, ?_⟩
     clear hw
     intro h9
     cases h9
    ·skip
     refine C_skip ?_
     refine K_out ?_
     refine K_then ?_
     refine C_region (l := [0, 1, 2]) rfl ?_
     refine Y_move ?_
     refine X_ari rfl rfl rfl rfl rfl (by exact wrap_in (by decide) (by omega)) rfl ?_
     refine Y_assign ?_
     refine XD_end ?_
     refine K_roundS (a' := [(3, _)]) (k + 1) (.cons (k := 3) rfl (.cons (k := 2) rfl (.cons (k := 0) rfl (.nil)))) (fun w hw => by first | exact hw | exact hw.c) ?_ ?_
     ·exact ⟨(), rfl, by omega⟩
     ·omega
   ·replace hc2 := dF hc2
    refine C_exit ?_
    iterate 2 refine K_exit ?_
    refine K_hit ?_
    refine K_then ?_
    refine Y_pk [2, 0] ?_
    refine C_seq ?_
    refine C_region (l := [0, 1, 2, 3]) rfl ?_
    refine Y_move ?_
    refine Y_len_sl F.elem23 ?_
    refine Y_cmp ?_
    refine Y_assign ?_
    refine XD_end ?_
    refine K_then ?_
    refine Y_pk [2] ?_
    refine C_ret ?_
    refine K_end (.inr rfl) (.tmp rfl .nil) (fun w hw => ?_)
    refine ⟨_, rfl, hw.c, _, rfl, ?_⟩
    clear hw
    intro h9
    (show s_l.length ≤ 2010; have h8 := of_decide_eq_false h9; omega)
  ·replace hc1 := dF hc1
   iterate 3 refine Y_skip ?_
   refine Y_pick ?_
   refine XD_end ?_
   refine K_then ?_
   refine C_false rfl ?_
   refine C_exit ?_
   iterate 2 refine K_exit ?_
   refine K_hit ?_
   refine K_then ?_
   refine Y_pk [2, 0] ?_
   refine C_seq ?_
   refine C_region (l := [0, 1, 2, 3]) rfl ?_
   refine Y_move ?_
   refine Y_len_sl F.elem23 ?_
   refine Y_cmp ?_
   refine Y_assign ?_
   refine XD_end ?_
   refine K_then ?_
   refine Y_pk [2] ?_
   refine C_ret ?_
   refine K_end (.inr rfl) (.tmp rfl .nil) (fun w hw => ?_)
   refine ⟨_, rfl, hw.c, _, rfl, ?_⟩
   clear hw
   intro h9
   (show s_l.length ≤ 2010; have h8 := of_decide_eq_false h9; omega)

theorem BigP_ok (M : Mem) (p : ParcelV) (hp0 : ParcelV.ok M p) : Fs Tryz.prog 9 [p.enc] M (fun v => ∃ b : Bool, v = .bool b ∧ (b = false → True)) := by
  obtain ⟨p_kind, p_epoch, p_key, ⟨p_op_client, p_op_req, p_op_kind, p_op_version, p_op_val⟩, ⟨p_answer_code, p_answer_version, p_answer_has, p_answer_val⟩, p_serial, ⟨p_cell_version, p_cell_has, p_cell_val, ⟨p_cell_marks_a, p_cell_marks_c, p_cell_marks_l⟩⟩⟩ := p
  have k_p_cell : CellV.ok M ⟨p_cell_version, p_cell_has, p_cell_val, ⟨p_cell_marks_a, p_cell_marks_c, p_cell_marks_l⟩⟩ := hp0.h0
  have k_p_cell_marks : SlK M MarkV.segs 6 ⟨p_cell_marks_a, p_cell_marks_c, p_cell_marks_l⟩ := hp0.h0.h0
  have s_p_cell_marks : SlM M p_cell_marks_a (p_cell_marks_l.map MarkV.segs) 6 := k_p_cell_marks.h1
  have n_p_cell_marks : (p_cell_marks_l.map MarkV.segs).length = p_cell_marks_l.length := List.length_map ..
  have m_p_cell_marks : p_cell_marks_l.length ≤ 9223372036854775807 := k_p_cell_marks.h2
  have c_p_cell_marks : p_cell_marks_l.length ≤ p_cell_marks_c := k_p_cell_marks.h3
  refine fs_enter Tryz.func9 rfl Tryz.ntmps9 rfl ?_; intro H
  refine C_seq ?_
  refine C_region (l := [0, 1]) rfl ?_
  refine Y_box ?_; intro b1
  refine Y_assign ?_
  refine XD_end ?_
  refine K_then ?_
  refine Y_pk [2, 1] ?_
  refine C_seq ?_
  refine C_region (l := [0, 1, 2, 3, 4, 5, 6, 7, 8, 9, 10, 11, 12, 13, 14, 15, 16, 17]) rfl ?_
  refine Y_fieldAddr F.foff39_6 ?_
  refine Y_load F.lay37 ?_
  refine X_fs rfl rfl F.ok22 rfl (Big17_ok _ ⟨p_cell_version, p_cell_has, p_cell_val, ⟨p_cell_marks_a, p_cell_marks_c, p_cell_marks_l⟩⟩ hp0.h0) rfl ?_
  rintro _ ⟨bb, rfl, -⟩
  refine Y_move ?_
  refine XD_part 6 rfl (fun hc2 => ?_) (fun hc2 => ?_)
  ·skip
   iterate 5 refine Y_skip ?_
   refine Y_pick ?_
   refine Y_move ?_
   iterate 5 refine Y_skip ?_
   refine Y_pick ?_
   refine Y_assign ?_
   refine XD_end ?_
   refine K_then ?_
   refine Y_pk [2] ?_
   refine C_ret ?_
   refine K_end (.inr rfl) (.tmp rfl .nil) (fun w hw => ?_)
   refine ⟨_, rfl, hw.c, _, rfl, ?_⟩
   clear hw
   exact fun _ => trivial
  ·skip
   refine Y_fieldAddr F.foff39_3 ?_
   refine Y_fieldAddr F.foff31_4 ?_
   refine Y_load F.lay9 ?_
   refine Y_len_str Tryz.underlying9 ?_
   refine Y_cmp ?_
   refine Y_pick ?_
   refine Y_move ?_
   refine XD_part 13 rfl (fun hc3 => ?_) (fun hc3 => ?_)
   ·replace hc3 := dT hc3
    iterate 5 refine Y_skip ?_
    refine Y_pick ?_
    refine Y_assign ?_
    refine XD_end ?_
    refine K_then ?_
    refine Y_pk [2] ?_
    refine C_ret ?_
    refine K_end (.inr rfl) (.tmp rfl .nil) (fun w hw => ?_)
    refine ⟨_, rfl, hw.c, _, rfl, ?_⟩
    clear hw
    exact fun _ => trivial
   ·replace hc3 := dF hc3
    refine Y_fieldAddr F.foff39_4 ?_
    refine Y_fieldAddr F.foff34_3 ?_
    refine Y_load F.lay9 ?_
    refine Y_len_str Tryz.underlying9 ?_
    refine Y_cmp ?_
    refine Y_pick ?_
    refine Y_assign ?_
    refine XD_end ?_
    refine K_then ?_
    refine Y_pk [2] ?_
    refine C_ret ?_
    refine K_end (.inr rfl) (.tmp rfl .nil) (fun w hw => ?_)
    refine ⟨_, rfl, hw.c, _, rfl, ?_⟩
    clear hw
    exact fun _ => trivial

theorem BigV_ok (M : Mem) (s : ServerV) (hs0 : ServerV.ok M s) : Fs Tryz.prog 8 [s.enc] M (fun v => ∃ b : Bool, v = .bool b ∧ (b = false → s.store.l.length ≤ 2010 ∧ s.waits.l.length ≤ 40 ∧ ∀ w ∈ s.waits.l, w.need.l.length ≤ 40)) := by
  obtain ⟨s_addr, s_epoch, ⟨s_store_a, s_store_c, s_store_l⟩, ⟨s_waits_a, s_waits_c, s_waits_l⟩, s_serial⟩ := s
  have k_s_store : SlK M HeldV.segs 24 ⟨s_store_a, s_store_c, s_store_l⟩ := hs0.h0
  have s_s_store : SlM M s_store_a (s_store_l.map HeldV.segs) 24 := k_s_store.h1
  have n_s_store : (s_store_l.map HeldV.segs).length = s_store_l.length := List.length_map ..
  have m_s_store : s_store_l.length ≤ 9223372036854775807 := k_s_store.h2
  have c_s_store : s_store_l.length ≤ s_store_c := k_s_store.h3
  have l_s_store : ∀ y ∈ s_store_l, HeldV.ok M y := hs0.h1
  have k_s_waits : SlK M WaitV.segs 28 ⟨s_waits_a, s_waits_c, s_waits_l⟩ := hs0.h2
  have s_s_waits : SlM M s_waits_a (s_waits_l.map WaitV.segs) 28 := k_s_waits.h1
  have n_s_waits : (s_waits_l.map WaitV.segs).length = s_waits_l.length := List.length_map ..
  have m_s_waits : s_waits_l.length ≤ 9223372036854775807 := k_s_waits.h2
  have c_s_waits : s_waits_l.length ≤ s_waits_c := k_s_waits.h3
  have l_s_waits : ∀ y ∈ s_waits_l, WaitV.ok M y := hs0.h3
  refine fs_enter Tryz.func8 rfl Tryz.ntmps8 rfl ?_; intro H
  refine C_seq ?_
  refine C_region (l := [0, 1]) rfl ?_
  refine Y_box ?_; intro b1
  refine Y_assign ?_
  refine XD_end ?_
  refine K_then ?_
  refine Y_pk [2, 1] ?_
  iterate 2 refine C_seq ?_
  refine C_region (l := [0]) rfl ?_
  refine Y_assign ?_
  refine XD_end ?_
  refine K_then ?_
  refine C_block ?_
  refine Y_pk [3, 2, 1] ?_
  refine C_loopS (.succ .zero) (fun (k : Nat) z => ∃ (_ : Unit), z = [(3, .int .i64 (k : Int))] ∧ k ≤ s_waits_l.length ∧ ∀ j (h2 : j < s_waits_l.length), j < k → s_waits_l[j].need.l.length ≤ 40) (fun k => s_waits_l.length - k) (0) (⟨(), rfl, by omega, fun j h2 hj => by omega⟩) ?_
  rintro k _ ⟨_, rfl, hk, hI⟩
  iterate 2 refine C_seq ?_
  refine C_region (l := [0, 1, 2, 3, 4, 5, 6, 7, 8, 9, 10]) rfl ?_
  refine Y_move ?_
  refine Y_fieldAddr F.foff26_3 ?_
  refine Y_load F.lay24 ?_
  refine Y_len_sl F.elem24 ?_
  refine Y_cmp ?_
  refine Y_move ?_
  refine XD_part 9 rfl (fun hc2 => ?_) (fun hc2 => ?_)
  ·replace hc2 := dT hc2
   refine Y_fieldAddr F.foff26_3 ?_
   refine Y_load F.lay24 ?_
   refine Y_len_sl F.elem24 ?_
   refine Y_cmp ?_
   refine Y_pick ?_
   refine XD_end ?_
   refine K_then ?_
   refine C_cond rfl (fun hc3 => ?_) (fun hc3 => ?_)
   ·replace hc3 := dT hc3
    refine C_skip ?_
    refine K_then ?_
    refine C_seq ?_
    refine C_block ?_
    refine C_seq ?_
    refine C_region (l := [0, 1, 2, 3, 4, 5, 6, 7]) rfl ?_
    refine Y_fieldAddr F.foff26_3 ?_
    refine Y_load F.lay24 ?_
    refine Y_move ?_
    refine X_indexAddr rfl rfl rfl rfl F.elem24 (by rfl) (by omega) (by exact SlM.plain (by assumption) (by (simp; omega))) rfl ?_
    refine X_fieldAddr_el rfl rfl rfl (by exact SlM.plain (by assumption) (by (simp; omega))) F.foff54_5 rfl ?_
    refine X_load_el rfl rfl rfl (by assumption) (by exact row_map (by omega)) F.lay52 rfl rfl rfl ?_
    refine Y_len_sl F.elem52 ?_
    refine Y_cmp ?_
    refine XD_end ?_
    refine K_then ?_
    refine C_cond rfl (fun hc4 => ?_) (fun hc4 => ?_)
    ·replace hc4 := dT hc4
     simp only [List.get_eq_getElem] at hc4
     refine C_seq ?_
     refine C_region (l := [0]) rfl ?_
     refine Y_assign ?_
     refine XD_end ?_
     refine K_then ?_
     refine C_ret ?_
     refine K_retB ?_
     iterate 2 refine K_ret ?_
     refine K_retB ?_
     refine K_ret ?_
     refine K_end (.inr rfl) (.tmp rfl .nil) (fun w hw => ?_)
     refine ⟨_, rfl, hw.c, _, rfl, ?_⟩
     clear hw
     intro h9
     (cases h9; done)
    ·replace hc4 := dF hc4
     simp only [List.get_eq_getElem] at hc4
     refine C_skip ?_
     refine K_out ?_
     refine K_then ?_
     refine C_region (l := [0, 1, 2]) rfl ?_
     refine Y_move ?_
     refine X_ari rfl rfl rfl rfl rfl (by exact wrap_in (by decide) (by omega)) rfl ?_
     refine Y_assign ?_
     refine XD_end ?_
     refine K_roundS (a' := [(3, _)]) (k + 1) (.cons (k := 3) rfl (.cons (k := 2) rfl (.cons (k := 1) rfl (.nil)))) (fun w hw => by first | exact hw | exact hw.c) ?_ ?_
     ·exact ⟨(), rfl, by omega, fun j h2 hj => by
        rcases Nat.lt_or_ge j k with h9 | h9
        ·exact hI j h2 h9
        ·have hjk : j = k := (by omega)
         subst hjk
         have h7 : ¬ ((s_waits_l[j].need.l.length : Int) > 40) := by assumption
         omega⟩
     ·omega
   ·replace hc3 := dF hc3
    refine C_exit ?_
    iterate 2 refine K_exit ?_
    refine K_hit ?_
    refine K_then ?_
    refine Y_pk [2, 1] ?_
    refine C_seq ?_
    refine C_region (l := [0, 1, 2, 3, 4, 5, 6, 7, 8, 9]) rfl ?_
    refine Y_fieldAddr F.foff26_3 ?_
    refine Y_load F.lay24 ?_
    refine Y_len_sl F.elem24 ?_
    refine Y_cmp ?_
    refine Y_move ?_
    refine XD_part 29 rfl (fun hc5 => ?_) (fun hc5 => ?_)
    ·replace hc5 := dT hc5
     iterate 3 refine Y_skip ?_
     refine Y_pick ?_
     refine Y_assign ?_
     refine XD_end ?_
     refine K_then ?_
     refine Y_pk [2] ?_
     refine C_ret ?_
     refine K_end (.inr rfl) (.tmp rfl .nil) (fun w hw => ?_)
     refine ⟨_, rfl, hw.c, _, rfl, ?_⟩
     clear hw
     intro h9
     (cases h9; done)
    ·replace hc5 := dF hc5
     (exfalso; omega)
  ·replace hc2 := dF hc2
   iterate 4 refine Y_skip ?_
   refine Y_pick ?_
   refine XD_end ?_
   refine K_then ?_
   refine C_false rfl ?_
   refine C_exit ?_
   iterate 2 refine K_exit ?_
   refine K_hit ?_
   refine K_then ?_
   refine Y_pk [2, 1] ?_
   refine C_seq ?_
   refine C_region (l := [0, 1, 2, 3, 4, 5, 6, 7, 8, 9]) rfl ?_
   refine Y_fieldAddr F.foff26_3 ?_
   refine Y_load F.lay24 ?_
   refine Y_len_sl F.elem24 ?_
   refine Y_cmp ?_
   refine Y_move ?_
   refine XD_part 29 rfl (fun hc6 => ?_) (fun hc6 => ?_)
   ·replace hc6 := dT hc6
    iterate 3 refine Y_skip ?_
    refine Y_pick ?_
    refine Y_assign ?_
    refine XD_end ?_
    refine K_then ?_
    refine Y_pk [2] ?_
    refine C_ret ?_
    refine K_end (.inr rfl) (.tmp rfl .nil) (fun w hw => ?_)
    refine ⟨_, rfl, hw.c, _, rfl, ?_⟩
    clear hw
    intro h9
    (cases h9; done)
   ·replace hc6 := dF hc6
    refine Y_fieldAddr F.foff26_2 ?_
    refine Y_load F.lay23 ?_
    refine X_fs rfl rfl F.ok21 rfl (BigS_ok _ ⟨s_store_a, s_store_c, s_store_l⟩ k_s_store l_s_store) rfl ?_
    rintro _ ⟨bb, rfl, hbb⟩
    refine Y_pick ?_
    refine Y_assign ?_
    refine XD_end ?_
    refine K_then ?_
    refine Y_pk [2] ?_
    refine C_ret ?_
    refine K_end (.inr rfl) (.tmp rfl .nil) (fun w hw => ?_)
    refine ⟨_, rfl, hw.c, _, rfl, ?_⟩
    clear hw
    intro h9
    (refine ⟨hbb (by assumption), (by show s_waits_l.length ≤ 40; omega), fun w9 hw9 => ?_⟩; replace hw9 : w9 ∈ s_waits_l := hw9; obtain ⟨j, hj, rfl⟩ := List.getElem_of_mem hw9; exact hI j hj (by omega))

end Go.Proofs.YtpkeilhilpogiaaGreat
/-
  What a request does, as the document has it.
-/
set_option linter.unusedSimpArgs false
set_option linter.unusedVariables false
set_option linter.unnecessarySimpa false
set_option maxRecDepth 8000
set_option maxHeartbeats 1000000
namespace Go.Proofs.YtpkeilhilpogiaaGreat
open Go.Esp
theorem F.bld54 : Bld Tryz.prog 54 [[idSeg 0], [.one (.int .i64 0)], [.one (.int .u64 0)], [.one (.int .i64 0), .one (.int .u64 0), .one (.bool false), .one (.string ⟨#[]⟩)], [.one (.int .u64 0)], [.one (.slice none 0 0)]] := by rw [idSeg0]; exact ⟨by kernel_rfl, by kernel_rfl⟩
end Go.Proofs.YtpkeilhilpogiaaGreat
/-
  What a server does, in plain Lean: once more, and who is answered.
-/
set_option linter.unusedSimpArgs false
set_option linter.unusedVariables false
set_option linter.unnecessarySimpa false
namespace Go.Esp
/-! One that waits is told. -/
theorem fm_stays : ∀ {l : List Wt} {f n : Int}, (∀ x ∈ l, x.serial ≠ n) → l.filterMap (stays1 f n) = l
  | [], f, n, h => rfl
  | x :: l, f, n, h => by
    have h1 : stays1 f n x = some x := if_pos (h x (.head _))
    rw [List.filterMap_cons, h1]
    simp only
    rw [fm_stays fun y hy => h y (.tail _ hy)]
theorem fm_done : ∀ {l : List Wt} {s : Srv} {f n : Int}, (∀ x ∈ l, x.serial ≠ n) → l.filterMap (done1 s f n) = []
  | [], s, f, n, h => rfl
  | x :: l, s, f, n, h => by
    have h1 : done1 s f n x = none := if_neg (fun e => h x (.head _) e.1)
    rw [List.filterMap_cons, h1]
    exact fm_done fun y hy => h y (.tail _ hy)
theorem told_done {s : Srv} {n : Int} (h : ∀ x ∈ s.waits, x.serial ≠ n) (f : Int) : copiedR s f n = (s, []) := by
  unfold copiedR
  rw [fm_stays h, fm_done h]
theorem told_wait {s : Srv} {W0 : List Wt} {w : Wt} (hs : s.waits = waitR W0 w) (hn : ∀ x ∈ W0, x.serial ≠ w.serial) (f : Int) :
    copiedR s f w.serial = if lessN w f = [] then (⟨s.addr, s.epoch, s.store, W0, s.serial⟩, [replyR s w.client w.req w.answer]) else (⟨s.addr, s.epoch, s.store, waitR W0 { w with need := lessN w f }, s.serial⟩, []) := by
  have hT : ∀ x ∈ W0.takeWhile (fun x : Wt => decide (LessP x.key w.key)), x.serial ≠ w.serial := fun x hx => hn x ((List.takeWhile_sublist _).subset hx)
  have hD : ∀ x ∈ W0.dropWhile (fun x : Wt => decide (LessP x.key w.key)), x.serial ≠ w.serial := fun x hx => hn x ((List.dropWhile_sublist _).subset hx)
  unfold copiedR
  rw [hs]
  unfold waitR
  rw [List.filterMap_append, List.filterMap_append, List.filterMap_cons, List.filterMap_cons, fm_stays hT, fm_stays hD, fm_done hT, fm_done hD]
  by_cases h : lessN w f = []
  · have h1 : stays1 f w.serial w = none := by unfold stays1; rw [if_neg (fun e => e rfl), if_pos h]
    have h2 : done1 s f w.serial w = some (replyR s w.client w.req w.answer) := if_pos ⟨rfl, h⟩
    rw [h1, h2, if_pos h]
    simp only [List.takeWhile_append_dropWhile, List.nil_append]
  · have h1 : stays1 f w.serial w = some { w with need := lessN w f } := by unfold stays1; rw [if_neg (fun e => e rfl), if_neg h]
    have h2 : done1 s f w.serial w = none := if_neg (fun e => h e.2)
    rw [h1, h2, if_neg h]
    rfl
end Go.Esp
/-
  One parcel sent.
-/
set_option linter.unusedSimpArgs false
set_option linter.unusedVariables false
set_option linter.unnecessarySimpa false
set_option maxRecDepth 8000
set_option maxHeartbeats 1000000
namespace Go.Proofs.YtpkeilhilpogiaaGreat
open Go.Esp
theorem F.foff67_0 : foff Tryz.prog 67 0 = some 0 := by kernel_rfl
theorem F.foff67_3 : foff Tryz.prog 67 3 = some 7 := by kernel_rfl
theorem F.lay43 : lay Tryz.prog 43 = some (false, 1) := by kernel_rfl

theorem send_ok (M : Mem) (bw : Nat) (s_addr s_epoch s_serial r : Int) (s_store_a s_waits_a l_a o_a : Option Addr) (s_store_c s_waits_c l_c o_c : Nat) (s_store_l : List HeldV) (s_waits_l : List WaitV) (l_l : List PeerV) (o_l : List PostV) (ho : Hp) (hO : OSl 51 37 (.slice o_a o_l.length o_c) ho (o_l.map PostV.segs)) (hL : o_l.length ≤ 100000) (to : Int) (p : ParcelV) : Fh Tryz.prog 61 [.pointer (some ⟨bw, 0, none⟩), .int .i64 to, p.enc] M ((bw, rowO (WorkerV.segs ⟨⟨s_addr, s_epoch, ⟨s_store_a, s_store_c, s_store_l⟩, ⟨s_waits_a, s_waits_c, s_waits_l⟩, s_serial⟩, ⟨l_a, l_c, l_l⟩, r, ⟨o_a, o_c, o_l⟩⟩) 67) :: ho) (fun M' v Hout => M' = M ∧ v = .tuple #[] ∧ ∃ (o9 : Sl PostV) (ho9 : Hp), Hout = (bw, rowO (WorkerV.segs ⟨⟨s_addr, s_epoch, ⟨s_store_a, s_store_c, s_store_l⟩, ⟨s_waits_a, s_waits_c, s_waits_l⟩, s_serial⟩, ⟨l_a, l_c, l_l⟩, r, o9⟩) 67) :: ho9 ∧ OSl 51 37 o9.val ho9 (o9.l.map PostV.segs) ∧ o9.l = o_l ++ [⟨to, { p with epoch := s_epoch }⟩]) := by
  obtain ⟨p_kind, p_epoch, p_key, ⟨p_op_client, p_op_req, p_op_kind, p_op_version, p_op_val⟩, ⟨p_answer_code, p_answer_version, p_answer_has, p_answer_val⟩, p_serial, ⟨p_cell_version, p_cell_has, p_cell_val, ⟨p_cell_marks_a, p_cell_marks_c, p_cell_marks_l⟩⟩⟩ := p
  refine fh_enterF (fun H => (bw, rowO (WorkerV.segs ⟨⟨s_addr, s_epoch, ⟨s_store_a, s_store_c, s_store_l⟩, ⟨s_waits_a, s_waits_c, s_waits_l⟩, s_serial⟩, ⟨l_a, l_c, l_l⟩, r, ⟨o_a, o_c, o_l⟩⟩) 67) :: (ho ++ H)) (fun _ => by simp only [List.append_assoc, List.cons_append, List.nil_append]) Tryz.func61 rfl Tryz.ntmps61 rfl ?_; intro H
  refine C_seq ?_
  refine C_region (l := [0]) rfl ?_
  refine Y_box ?_; intro b1
  refine XD_end ?_
  refine K_then ?_
  refine Y_pk [5, 0, 1] ?_
  refine C_seq ?_
  refine C_region (l := [0, 1, 2, 3, 4, 5, 6]) rfl ?_
  refine Y_move ?_
  refine Y_nilCheck ?_
  refine Y_fieldAddr F.foff67_0 ?_
  refine Y_fieldAddr F.foff26_1 ?_
  refine Y_load F.lay22 ?_
  refine Y_fieldAddr F.foff39_1 ?_
  refine Y_store F.lay22 ?_
  refine XD_end ?_
  refine K_then ?_
  refine Y_pk [5, 0, 1] ?_
  refine C_region_any (l := [0, 1, 2, 3, 4, 5, 6, 7, 8, 9, 10, 11, 12]) #[0, 0, 2, 6, 14, 0, 0, 96, 224, 510, 1023, 2047, 4095] _ rfl (by kernel_rfl) (by kernel_rfl) St.drawn (fun _ h => h) ?_
  iterate 2 refine Y_move ?_
  refine Y_nilCheck ?_
  refine Y_fieldAddr F.foff67_3 ?_
  refine Y_load F.lay43 ?_
  refine Y_move ?_
  refine Y_load F.lay39 ?_
  refine X_build rfl rfl F.bld51 (.cons rfl (by constructor) (.cons rfl (by constructor) .nil)) rfl rfl ?_
  refine X_buildSliceF rfl rfl F.elem43 F.zero51 rfl rfl (.cons rfl (by constructor) .nil) rfl rfl (by simp only [List.map_cons, List.map_nil] <;> rfl) rfl ?_; intro b2 hob3
  refine X_append (m := 1000000) rfl rfl rfl rfl rfl F.elem43 F.zero51 (by exact agg_size rfl) rfl (by assumption) (by repeat first | exact Rem.here _ | exact Rem.two | apply Rem.skip | apply Rem.over) (Src.own hob3.lens (by (refine rows_one1 ?_; (repeat (first | exact flat_nil | refine flat_id ?_ | (refine flat_one ?_ ?_; rfl))); done)) rfl (by repeat first | exact List.Mem.head _ | refine List.Mem.tail _ ?_ | refine List.mem_append_right _ ?_)) (by (simp; omega)) (by decide) rfl ?_; intro v6 hs5 ho4; obtain ⟨adv6, cpv6, rfl⟩ := ho4.valAt (n := o_l.length + 1) (by (simp; done))
  refine Y_nilCheck ?_
  refine Y_fieldAddr F.foff67_3 ?_
  refine Y_store F.lay43 ?_
  refine XD_end ?_
  refine K_end (.inl rfl) (.nil) (fun w hw => ?_)
  have h9 := ho4
  have hln : o_l.length + 1 = (o_l ++ [(⟨to, ⟨p_kind, s_epoch, p_key, ⟨p_op_client, p_op_req, p_op_kind, p_op_version, p_op_val⟩, ⟨p_answer_code, p_answer_version, p_answer_has, p_answer_val⟩, p_serial, ⟨p_cell_version, p_cell_has, p_cell_val, ⟨p_cell_marks_a, p_cell_marks_c, p_cell_marks_l⟩⟩⟩⟩ : PostV)]).length := by rw [List.length_append]; rfl
  rw [hln] at hw h9
  refine ⟨_, M, (bw, rowO (WorkerV.segs ⟨⟨s_addr, s_epoch, ⟨s_store_a, s_store_c, s_store_l⟩, ⟨s_waits_a, s_waits_c, s_waits_l⟩, s_serial⟩, ⟨l_a, l_c, l_l⟩, r, (⟨adv6, cpv6, o_l ++ [(⟨to, ⟨p_kind, s_epoch, p_key, ⟨p_op_client, p_op_req, p_op_kind, p_op_version, p_op_val⟩, ⟨p_answer_code, p_answer_version, p_answer_has, p_answer_val⟩, p_serial, ⟨p_cell_version, p_cell_has, p_cell_val, ⟨p_cell_marks_a, p_cell_marks_c, p_cell_marks_l⟩⟩⟩⟩ : PostV)]⟩ : Sl PostV)⟩) 67) :: hs5, rfl, Mem.le.refl M, ?_, rfl, rfl, (⟨adv6, cpv6, o_l ++ [(⟨to, ⟨p_kind, s_epoch, p_key, ⟨p_op_client, p_op_req, p_op_kind, p_op_version, p_op_val⟩, ⟨p_answer_code, p_answer_version, p_answer_has, p_answer_val⟩, p_serial, ⟨p_cell_version, p_cell_has, p_cell_val, ⟨p_cell_marks_a, p_cell_marks_c, p_cell_marks_l⟩⟩⟩⟩ : PostV)]⟩ : Sl PostV), hs5, rfl, ?_, rfl⟩
  ·simp only [WorkerV.segs, Sl.val] at hw ⊢
   exact hw.c
  ·exact OSl.as9 h9 (by rw [List.map_append]; rfl)

end Go.Proofs.YtpkeilhilpogiaaGreat
/-
  Regions in the text's order, some calls of which lay anew what reads lean on.
-/
set_option linter.unusedSimpArgs false
set_option linter.unusedVariables false
set_option linter.unnecessarySimpa false
namespace Go.Esp
section
variable {P : Program} {ops : Array Oper} {Q : Exit → Act → World → Prop} {M M' : Mem} {H H' H0 : Hp} {e : Env}
theorem C_regionW {m : Nat} {ds : List Deferred} {ro : Option Nat} {id : Nat} {l : List Nat} (ws : List Nat) (hl : List.range ops.size = l) (h : XD P ⟨m, ds, ro, ws⟩ ops Q l (St M H) ⟨M, H⟩ e) : C P ⟨m, ds, ro, []⟩ (.region id ops false) Q (St M H) e :=
  fun a w ha hw => wpIn_region (wpOps_of_WD _ (St M H) ⟨M, H⟩ a w (fun _ h => h) hw (hl ▸ h (fun _ h => h) a ⟨ha.size, ha.defers, ha.slot⟩))

/-- A call of a closure that turns blocks of ours: what reads lean on is laid anew. -/
theorem X_fhVW {n : Sh} {rest : List Nat} {J : World → Prop} {i : Nat} {dst : Option Tmp} {ty : TypeId} {pos : String} {af : Array Edge} {gd : Option (Nat × Bool)} {f : FuncId} {g : Operand} {xs : List Operand} {ats : Array TypeId} {vs caps : List Value} {Hin Hr : Hp} {R : Mem → Value → Hp → Prop} (hi : ops[i]? = some ⟨dst, .call ⟨.value g, xs.toArray, ats⟩, ty, pos, af, gd⟩) (hcl : clOf P (.call ⟨.value g, xs.toArray, ats⟩) = .eff) (hws : n.wrs.contains i = true) (hg : want ops e gd = some true)
    (hf : okFn P f = true) (hgv : ev e g = some (.func (.func f) #[] caps.toArray)) (hx : evs e xs = some vs) (hc : Fh P f (vs ++ caps) M Hin R) (hH : Rem Hin H Hr)
    (hd : ∀ a v, Sat n e a → Sat n (putE dst v e) (a.put dst v))
    (hk : ∀ v M' Hout, M.le M' → R M' v Hout → XD P n ops Q rest (St M' (Hout ++ Hr)) ⟨M', Hout ++ Hr⟩ (putE dst v e)) : XD P n ops Q (i :: rest) J ⟨M, H⟩ e := by
  obtain ⟨fn, h1, h2, h3⟩ := okFn_spec hf
  refine X_mutW hi hcl hws hg (fun a w ha hw => does_callV h1 h2 h3 (ha.ev hgv) (by simpa using ha.evs hx) ?_)
  exact (hc Hr w (hw.perm hH.perm)).mono fun e' w' ⟨v, M', Hout, he, hm, hs, hr⟩ => ⟨v, he, ⟨M', Hout ++ Hr⟩, _, hs, hd a v ha, hk v M' Hout hm hr⟩
end
end Go.Esp
/-
  What is left of a row without some.
-/
set_option linter.unusedSimpArgs false
set_option linter.unusedVariables false
set_option linter.unnecessarySimpa false
namespace Go.Esp
abbrev IntV := Int
theorem IntV.flat (x : Int) : Esp.flat (oneI .i64 x) := flat_one rfl flat_nil
/-! What is left of a row without some. -/
def kept {α : Type} (p : α → Bool) (l : List α) : List α := l.filter (fun x => !p x)
theorem kept_none {α : Type} {p : α → Bool} {l : List α} (h : idxF p l = -1) : kept p l = l := by
  unfold idxF at h
  split at h
  · rename_i h1; omega
  · rename_i h1
    unfold kept
    rw [List.filter_eq_self]
    intro x hx
    simp at h1
    simp [h1 x hx]
theorem idxF_some {α : Type} {p : α → Bool} {l : List α} (h : idxF p l ≠ -1) : ∃ i, idxF p l = (i : Nat) ∧ ∃ hi : i < l.length, kept p (l.take (i + 1)) = l.take i ∧ p l[i] = true := by
  unfold idxF at h ⊢
  split
  · rename_i h1
    have hi : l.findIdx p < l.length := List.findIdx_lt_length_of_exists (by simpa using h1)
    refine ⟨l.findIdx p, rfl, hi, ?_, List.findIdx_getElem (w := hi)⟩
    unfold kept
    rw [List.take_add_one, List.getElem?_eq_getElem hi, List.filter_append]
    have e1 : (l.take (l.findIdx p)).filter (fun x => !p x) = l.take (l.findIdx p) := by
      rw [List.filter_eq_self]
      intro x hx
      obtain ⟨j, hj, rfl⟩ := List.mem_take_iff_getElem.1 hx
      have := List.not_of_lt_findIdx (p := p) (xs := l) (i := j) (by omega)
      simp [this]
    have e2 : p (l[l.findIdx p]) = true := List.findIdx_getElem (w := hi)
    rw [e1]; simp [e2]
  · rename_i h1; rw [if_neg h1] at h; exact (h rfl).elim
theorem filt_step {α : Type} {p : α → Bool} {l : List α} {j : Nat} (hj : j < l.length) : kept p (l.take (j + 1)) = if p l[j] then kept p (l.take j) else kept p (l.take j) ++ [l[j]] := by
  unfold kept
  rw [List.take_add_one, List.getElem?_eq_getElem hj, List.filter_append]
  cases h : p l[j] <;> simp [h]
/-- One more is kept: it is put behind those kept so far. -/
theorem keep_put {α : Type} {w l : List α} {i j : Nat} {q : List α} (hw : w.length = l.length) (hij : i < j) (hj : j < l.length) (h1 : w.take i = q) (h2 : w.drop j = l.drop j) : (w.set i l[j]).length = l.length ∧ (w.set i l[j]).take (i + 1) = q ++ [l[j]] ∧ (w.set i l[j]).drop (j + 1) = l.drop (j + 1) := by
  refine ⟨by simpa using hw, ?_, ?_⟩
  · rw [List.take_add_one, List.getElem?_set_self (by omega), List.take_set_of_le (Nat.le_refl i), h1]; rfl
  · rw [List.drop_set_of_lt (by omega)]
    have := congrArg (List.drop 1) h2
    simpa [List.drop_drop] using this
theorem drop_at {α : Type} {w l : List α} {j : Nat} (hw : w.length = l.length) (hj : j < l.length) (h2 : w.drop j = l.drop j) : w[j]'(by omega) = l[j] := by
  have e1 := List.drop_eq_getElem_cons (l := w) (i := j) (by omega)
  have e2 := List.drop_eq_getElem_cons (l := l) (i := j) hj
  rw [e1, e2] at h2
  exact (List.cons.inj h2).1
theorem turn_step {α : Type} {w l : List α} {f : α → α} {k : Nat} (hw : w.length = l.length) (hk : k < l.length) (h1 : w.take k = (l.take k).map f) (h2 : w.drop k = l.drop k) {x : α} (hx : x = f l[k]) :
    (w.set k x).length = l.length ∧ (w.set k x).take (k + 1) = (l.take (k + 1)).map f ∧ (w.set k x).drop (k + 1) = l.drop (k + 1) := by
  refine ⟨by simpa using hw, ?_, ?_⟩
  · rw [List.take_add_one, List.getElem?_set_self (by omega), List.take_set_of_le (Nat.le_refl k), h1, List.take_add_one, List.getElem?_eq_getElem hk, List.map_append, hx]; rfl
  · rw [List.drop_set_of_lt (by omega)]
    have := congrArg (List.drop 1) h2
    simpa [List.drop_drop] using this
theorem turn_stay {α : Type} {w l : List α} {f : α → α} {k : Nat} (hw : w.length = l.length) (hk : k < l.length) (h1 : w.take k = (l.take k).map f) (h2 : w.drop k = l.drop k) (hx : l[k] = f l[k]) :
    w.take (k + 1) = (l.take (k + 1)).map f ∧ w.drop (k + 1) = l.drop (k + 1) := by
  constructor
  · rw [List.take_add_one, List.getElem?_eq_getElem (by omega), drop_at hw hk h2, h1, List.take_add_one, List.getElem?_eq_getElem hk, List.map_append]
    simp [← hx]
  · have := congrArg (List.drop 1) h2
    simpa [List.drop_drop] using this
end Go.Esp
/-
  Where a search for a key ends among what waits.
-/
set_option linter.unusedSimpArgs false
set_option linter.unusedVariables false
set_option linter.unnecessarySimpa false
namespace Go.Esp
def wtC (key : Plc) (w : WaitV) : Int := thanI w.key key
theorem wts_at {l : List WaitV} (h : WtsOk (wtl l)) {i j : Nat} (hi : i < l.length) (hj : j < l.length) (hij : i < j) : LessP l[i].key l[j].key := by
  have h9 := (List.pairwise_iff_getElem.1 h.2) i j (by rw [wtl_len]; exact hi) (by rw [wtl_len]; exact hj) hij
  rw [wtl_at hi, wtl_at hj] at h9
  exact h9
theorem wtC_mono {l : List WaitV} (h : WtsOk (wtl l)) (key : Plc) (i j : Nat) (hi : i < l.length) (hj : j < l.length) (hij : i ≤ j) (h0 : 0 ≤ wtC key l[i]) : 0 ≤ wtC key l[j] := by
  rcases Nat.lt_or_ge i j with h1 | h1
  · have h2 := wts_at h hi hj h1
    have h3 := than_nn.1 h0
    exact than_nn.2 fun h4 => h3 (Nat.lt_trans h2 h4)
  · have e : i = j := by omega
    subst e; exact h0
/-- Whether something waits for a key, and where it would. -/
theorem wt_find {l : List WaitV} (h : WtsOk (wtl l)) (key : Plc) :
    bsAt (wtC key) l ≤ l.length ∧ (∀ j (hj : j < l.length), j < bsAt (wtC key) l → LessP l[j].key key) ∧ (∀ hj : bsAt (wtC key) l < l.length, ¬ LessP l[bsAt (wtC key) l].key key) ∧
    (bsIs (wtC key) l = true → ∃ hj : bsAt (wtC key) l < l.length, l[bsAt (wtC key) l].key = key ∧ (wtl l).find? (fun w => decide (w.key = key)) = some (WaitV.pl l[bsAt (wtC key) l])) ∧
    (bsIs (wtC key) l = false → (wtl l).find? (fun w => decide (w.key = key)) = none) := by
  obtain ⟨h1, h2, h3⟩ := firstP_spec (bsP (wtC key) l) l.length
  have hb : bsAt (wtC key) l = firstP (bsP (wtC key) l) l.length := rfl
  rw [← hb] at h1 h2 h3
  generalize hk : bsAt (wtC key) l = k at h1 h2 h3 ⊢
  have g2 : ∀ j (hj : j < l.length), j < k → LessP l[j].key key := fun j hj hjk => by
    have h4 := h2 j hjk
    rw [bsP_at hj] at h4
    by_cases h5 : LessP l[j].key key
    · exact h5
    · exact absurd (than_nn.2 h5) (of_decide_eq_false h4)
  have g3 : ∀ hj : k < l.length, ¬ LessP l[k].key key := fun hj => by
    have h4 := h3 hj
    rw [bsP_at hj] at h4
    exact than_nn.1 (of_decide_eq_true h4)
  refine ⟨h1, g2, g3, fun hi => ?_, fun hi => ?_⟩
  · rcases Nat.lt_or_ge k l.length with hj | hj
    · rw [bsIs_lt hk hj] at hi
      have he := than_zero.1 (of_decide_eq_true hi)
      refine ⟨hj, he, ?_⟩
      rw [List.find?_eq_some_iff_getElem]
      refine ⟨decide_eq_true he, k, by rw [wtl_len]; exact hj, wtl_at hj, fun j hjk => ?_⟩
      have hjl : j < l.length := by omega
      rw [wtl_at hjl]
      have h6 := g2 j hjl hjk
      simp only [Bool.not_eq_true', decide_eq_false_iff_not]
      intro h7
      replace h7 : l[j].key = key := h7
      rw [h7] at h6
      exact Nat.lt_irrefl _ h6
    · rw [bsIs_ge hk (by omega)] at hi; cases hi
  · rw [List.find?_eq_none]
    intro x hx
    obtain ⟨y, hy, rfl⟩ := List.mem_map.1 hx
    obtain ⟨j, hj, rfl⟩ := List.getElem_of_mem hy
    simp only [decide_eq_true_eq]
    intro h7
    replace h7 : l[j].key = key := h7
    rcases Nat.lt_trichotomy j k with h8 | h8 | h8
    · have h6 := g2 j hj h8
      rw [h7] at h6
      exact Nat.lt_irrefl _ h6
    · subst h8
      rw [bsIs_lt hk hj] at hi
      exact of_decide_eq_false hi (than_zero.2 h7)
    · have hkl : k < l.length := by omega
      have h6 := wts_at h hkl hj h8
      rw [h7] at h6
      exact g3 hkl h6
theorem fh_of_fo {P : Program} {f : FuncId} {vs : List Value} {M : Mem} {Hin : Hp} {R : Mem → Value → Prop} (h : Fo P f vs M Hin R) : Fh P f vs M Hin (fun M' v Hout => R M' v ∧ Hout = Hin) := fun H w hw =>
  (h H w hw).mono fun _ _ ⟨v, M', he, hm, hs, hr⟩ => ⟨v, M', Hin, he, hm, hs, hr, rfl⟩
theorem fh_weak {P : Program} {f : FuncId} {vs : List Value} {M : Mem} {Hin : Hp} {R R' : Mem → Value → Hp → Prop} (h : Fh P f vs M Hin R) (hr : ∀ M' v Hout, R M' v Hout → R' M' v Hout) : Fh P f vs M Hin R' := fun H w hw =>
  (h H w hw).mono fun _ _ ⟨v, M', Ho, he, hm, hs, h9⟩ => ⟨v, M', Ho, he, hm, hs, hr _ _ _ h9⟩
theorem kept_not {n : Int} {l : List Int} : kept (fun x : IntV => decide (x = n)) l = l.filter (notI n) := by
  unfold kept
  congr 1
  funext x
  simp [notI]
/-- What one that waits has sent, if it is told by the last one. -/
def doneV (ep frm serial : Int) (w : WaitV) : Option PostV := if w.serial = serial ∧ lessN w.pl frm = [] then some ⟨1000 + w.client, ⟨2, ep, 0, ⟨w.client, w.req, 0, 0, ⟨#[]⟩⟩, w.answer, 0, CellV.zero⟩⟩ else none
theorem doneV_pl {s : Srv} {frm serial : Int} {w : WaitV} : (doneV s.epoch frm serial w).map PostV.pl = done1 s frm serial w.pl := by
  unfold doneV done1
  by_cases h : w.serial = serial ∧ lessN w.pl frm = []
  · rw [if_pos h, if_pos (show w.pl.serial = serial ∧ lessN w.pl frm = [] from h)]; rfl
  · rw [if_neg h, if_neg (show ¬ (w.pl.serial = serial ∧ lessN w.pl frm = []) from h)]; rfl
theorem doneV_all {s : Srv} {frm serial : Int} : ∀ {l : List WaitV}, pstl (l.filterMap (doneV s.epoch frm serial)) = (wtl l).filterMap (done1 s frm serial)
  | [] => rfl
  | w :: l => by
    have h := doneV_pl (s := s) (frm := frm) (serial := serial) (w := w)
    show pstl ((w :: l).filterMap _) = (w.pl :: wtl l).filterMap _
    rw [List.filterMap_cons, List.filterMap_cons, ← h]
    cases e : doneV s.epoch frm serial w with
    | none => exact doneV_all
    | some y =>
      show pstl (y :: _) = PostV.pl y :: _
      rw [← doneV_all (l := l)]
      rfl
def goneW (frm serial : Int) (w : WaitV) : Bool := decide (w.serial = serial ∧ lessN w.pl frm = [])
end Go.Esp
/-
  Replies and copies sent.
-/
set_option linter.unusedSimpArgs false
set_option linter.unusedVariables false
set_option linter.unnecessarySimpa false
set_option maxRecDepth 8000
set_option maxHeartbeats 1000000
namespace Go.Proofs.YtpkeilhilpogiaaGreat
open Go.Esp
theorem F.ok19 : okFn Tryz.prog 19 = true := by kernel_rfl
theorem F.ok61 : okFn Tryz.prog 61 = true := by kernel_rfl

theorem reply_ok (M : Mem) (bw : Nat) (s_addr s_epoch s_serial r : Int) (s_store_a s_waits_a l_a o_a : Option Addr) (s_store_c s_waits_c l_c o_c : Nat) (s_store_l : List HeldV) (s_waits_l : List WaitV) (l_l : List PeerV) (o_l : List PostV) (ho : Hp) (hO : OSl 51 37 (.slice o_a o_l.length o_c) ho (o_l.map PostV.segs)) (hL : o_l.length ≤ 90000) (client req : Int) (a : AnswerV) (hcl : 0 ≤ client ∧ client ≤ 63) : Fh Tryz.prog 54 [.pointer (some ⟨bw, 0, none⟩), .int .i64 client, .int .u64 req, a.enc] M ((bw, rowO (WorkerV.segs ⟨⟨s_addr, s_epoch, ⟨s_store_a, s_store_c, s_store_l⟩, ⟨s_waits_a, s_waits_c, s_waits_l⟩, s_serial⟩, ⟨l_a, l_c, l_l⟩, r, ⟨o_a, o_c, o_l⟩⟩) 67) :: ho) (fun M' v Hout => M' = M ∧ v = .tuple #[] ∧ ∃ (o9 : Sl PostV) (ho9 : Hp), Hout = (bw, rowO (WorkerV.segs ⟨⟨s_addr, s_epoch, ⟨s_store_a, s_store_c, s_store_l⟩, ⟨s_waits_a, s_waits_c, s_waits_l⟩, s_serial⟩, ⟨l_a, l_c, l_l⟩, r, o9⟩) 67) :: ho9 ∧ OSl 51 37 o9.val ho9 (o9.l.map PostV.segs) ∧ o9.l = o_l ++ [⟨1000 + client, ⟨2, s_epoch, 0, ⟨client, req, 0, 0, ⟨#[]⟩⟩, a, 0, CellV.zero⟩⟩]) := by
  obtain ⟨a_code, a_version, a_has, a_val⟩ := a
  refine fh_enterF (fun H => (bw, rowO (WorkerV.segs ⟨⟨s_addr, s_epoch, ⟨s_store_a, s_store_c, s_store_l⟩, ⟨s_waits_a, s_waits_c, s_waits_l⟩, s_serial⟩, ⟨l_a, l_c, l_l⟩, r, ⟨o_a, o_c, o_l⟩⟩) 67) :: (ho ++ H)) (fun _ => by simp only [List.append_assoc, List.cons_append, List.nil_append]) Tryz.func54 rfl Tryz.ntmps54 rfl ?_; intro H
  refine C_seq ?_
  refine C_region (l := [0]) rfl ?_
  refine Y_box ?_; intro b1
  refine XD_end ?_
  refine K_then ?_
  refine Y_pk [7, 0, 1, 2] ?_
  refine C_regionW (l := [0, 1, 2, 3, 4, 5, 6, 7, 8]) [8] rfl ?_
  iterate 2 refine Y_move ?_
  refine X_ari rfl rfl rfl rfl rfl (by exact wrap_in (by decide) (by omega)) rfl ?_
  iterate 2 refine Y_move ?_
  refine X_build rfl rfl F.bld31 (.cons rfl (by constructor) (.cons rfl (by constructor) .nil)) rfl rfl ?_
  refine Y_load F.lay34 ?_
  refine X_build rfl rfl F.bld39 (.cons rfl (by constructor) (.cons rfl (by constructor) (.cons rfl (by constructor) .nil))) rfl rfl ?_
  refine X_fhW rfl rfl rfl F.ok61 rfl (send_ok M bw s_addr s_epoch s_serial r s_store_a s_waits_a l_a o_a s_store_c s_waits_c l_c o_c s_store_l s_waits_l l_l o_l ho hO (by omega) (1000 + client) ⟨2, 0, 0, ⟨client, req, 0, 0, ⟨#[]⟩⟩, ⟨a_code, a_version, a_has, a_val⟩, 0, CellV.zero⟩) (by repeat first | exact Rem.here _ | exact Rem.two | apply Rem.skip | apply Rem.over) (putE_some rfl) ?_
  rintro _ M1 hs1 hm1 ⟨hM1, rfl, ⟨o2_a, o2_c, o2_l⟩, ho2, rfl, hO2, ho2l⟩
  subst M1
  simp only at ho2l hO2
  simp only [List.append_assoc, List.cons_append, List.nil_append]
  refine XD_end ?_
  refine K_unw ?_
  refine K_end (.inl rfl) (.nil) (fun w hw => ?_)
  refine ⟨_, M, (bw, rowO (WorkerV.segs ⟨⟨s_addr, s_epoch, ⟨s_store_a, s_store_c, s_store_l⟩, ⟨s_waits_a, s_waits_c, s_waits_l⟩, s_serial⟩, ⟨l_a, l_c, l_l⟩, r, ⟨o2_a, o2_c, o2_l⟩⟩) 67) :: ho2, rfl, Mem.le.refl M, ?_, rfl, rfl, ⟨o2_a, o2_c, o2_l⟩, ho2, rfl, hO2, ho2l⟩
  ·simp only [WorkerV.segs, Sl.val] at hw ⊢
   exact hw.c

theorem copies_ok (M : Mem) (bw : Nat) (s_addr s_epoch s_serial r : Int) (s_store_a s_waits_a l_a o_a : Option Addr) (s_store_c s_waits_c l_c o_c : Nat) (s_store_l : List HeldV) (s_waits_l : List WaitV) (l_l : List PeerV) (o_l : List PostV) (ho : Hp) (hO : OSl 51 37 (.slice o_a o_l.length o_c) ho (o_l.map PostV.segs)) (hL : o_l.length ≤ 90000) (x : WaitV) (hb : x.need.l.length ≤ 1000) (k_x : SlK M (oneI .i64) 1 x.need) (hst : SlK M HeldV.segs 24 ⟨s_store_a, s_store_c, s_store_l⟩) (hsto : ∀ y ∈ s_store_l, HeldV.ok M y) : Fh Tryz.prog 55 [.pointer (some ⟨bw, 0, none⟩), x.enc] M ((bw, rowO (WorkerV.segs ⟨⟨s_addr, s_epoch, ⟨s_store_a, s_store_c, s_store_l⟩, ⟨s_waits_a, s_waits_c, s_waits_l⟩, s_serial⟩, ⟨l_a, l_c, l_l⟩, r, ⟨o_a, o_c, o_l⟩⟩) 67) :: ho) (fun M' v Hout => M' = M ∧ v = .tuple #[] ∧ ∃ (o9 : Sl PostV) (ho9 : Hp), Hout = (bw, rowO (WorkerV.segs ⟨⟨s_addr, s_epoch, ⟨s_store_a, s_store_c, s_store_l⟩, ⟨s_waits_a, s_waits_c, s_waits_l⟩, s_serial⟩, ⟨l_a, l_c, l_l⟩, r, o9⟩) 67) :: ho9 ∧ OSl 51 37 o9.val ho9 (o9.l.map PostV.segs) ∧ o9.l = o_l ++ x.need.l.map (fun t : Int => (⟨t, ⟨3, s_epoch, x.key, OpV.zero, AnswerV.zero, x.serial, (findX s_store_l x.key).1⟩⟩ : PostV))) := by
  obtain ⟨x_key, x_client, x_req, ⟨x_answer_code, x_answer_version, x_answer_has, x_answer_val⟩, x_serial, ⟨x_need_a, x_need_c, x_need_l⟩⟩ := x
  simp only at hb
  have s_x := k_x.h1
  simp only at s_x
  have n_x : (x_need_l.map (oneI .i64)).length = x_need_l.length := List.length_map ..
  refine fh_enterF (fun H => (bw, rowO (WorkerV.segs ⟨⟨s_addr, s_epoch, ⟨s_store_a, s_store_c, s_store_l⟩, ⟨s_waits_a, s_waits_c, s_waits_l⟩, s_serial⟩, ⟨l_a, l_c, l_l⟩, r, ⟨o_a, o_c, o_l⟩⟩) 67) :: (ho ++ H)) (fun _ => by simp only [List.append_assoc, List.cons_append, List.nil_append]) Tryz.func55 rfl Tryz.ntmps55 rfl ?_; intro H
  refine C_seq ?_
  refine C_region (l := [0]) rfl ?_
  refine Y_box ?_; intro b1
  refine XD_end ?_
  refine K_then ?_
  refine Y_pk [3, 0] ?_
  refine C_seq ?_
  refine C_region_any (l := [0, 1, 2, 3, 4, 5, 6, 7, 8, 9, 10, 11, 12, 13]) #[0, 1, 3, 7, 15, 0, 32, 127, 255, 511, 511, 0, 3071, 8191] _ rfl (by kernel_rfl) (by kernel_rfl) St.drawn (fun _ h => h) ?_
  refine Y_move ?_
  refine Y_nilCheck ?_
  refine Y_fieldAddr F.foff67_0 ?_
  refine Y_fieldAddr F.foff26_2 ?_
  refine Y_load F.lay23 ?_
  refine Y_fieldAddr F.foff54_0 ?_
  refine Y_load F.lay29 ?_
  refine X_fs rfl rfl F.ok19 rfl (Find_ok _ ⟨s_store_a, s_store_c, s_store_l⟩ x_key hst hsto) rfl ?_
  rintro _ hv
  obtain ⟨⟨xc, xb⟩, hx⟩ : ∃ r, findX s_store_l x_key = r := ⟨_, rfl⟩
  replace hv : _ = findXv (findX s_store_l x_key) := hv
  rw [hx] at hv
  subst hv
  obtain ⟨c_v, c_h, c_s, ⟨c_a, c_c, c_l⟩⟩ := xc
  refine Y_move ?_
  iterate 2 refine Y_extract ?_
  refine Y_alloc F.zero37 ?_; intro b2
  refine Y_store F.lay37 ?_
  refine Y_assign ?_
  refine XD_end ?_
  refine K_then ?_
  refine Y_pk [4, 3, 0] ?_
  refine C_seq ?_
  refine C_region (l := [0, 1, 2, 3]) rfl ?_
  refine Y_fieldAddr F.foff54_5 ?_
  refine Y_load F.lay52 ?_
  refine Y_len_sl F.elem52 ?_
  refine Y_move ?_
  refine XD_end ?_
  refine K_then ?_
  refine Y_pk [22, 21, 20, 4, 3, 0] ?_
  refine C_block ?_
  refine Y_pk [22, 21, 20, 4, 3, 0] ?_
  refine C_loopO (Hin := ((bw, rowO (WorkerV.segs ⟨⟨s_addr, s_epoch, ⟨s_store_a, s_store_c, s_store_l⟩, ⟨s_waits_a, s_waits_c, s_waits_l⟩, s_serial⟩, ⟨l_a, l_c, l_l⟩, r, ⟨o_a, o_c, o_l⟩⟩) 67) :: ho)) (.succ .zero) (by repeat first | exact Rem.here _ | exact Rem.two | apply Rem.skip | apply Rem.over) (fun (k : Nat) M1 h1 z => ∃ (o9 : Sl PostV) (ho9 : Hp), M1 = M ∧ z = [(22, .int .i64 (k : Int))] ∧ k ≤ x_need_l.length ∧ h1 = (bw, rowO (WorkerV.segs ⟨⟨s_addr, s_epoch, ⟨s_store_a, s_store_c, s_store_l⟩, ⟨s_waits_a, s_waits_c, s_waits_l⟩, s_serial⟩, ⟨l_a, l_c, l_l⟩, r, o9⟩) 67) :: ho9 ∧ OSl 51 37 o9.val ho9 (o9.l.map PostV.segs) ∧ o9.l = o_l ++ (x_need_l.take k).map (fun t : Int => (⟨t, ⟨3, s_epoch, x_key, OpV.zero, AnswerV.zero, x_serial, ⟨c_v, c_h, c_s, ⟨c_a, c_c, c_l⟩⟩⟩⟩ : PostV))) (fun k => x_need_l.length - k) (0) (⟨⟨o_a, o_c, o_l⟩, ho, rfl, rfl, by omega, rfl, hO, by simp⟩) ?_
  rintro k M1 h1 z hm1 ⟨⟨o3_a, o3_c, o3_l⟩, ho3, hM1, rfl, hk9, rfl, hO3, ho3l⟩
  subst M1
  simp only at ho3l hO3
  have hl3 : o3_l.length ≤ 91000 := by rw [ho3l, List.length_append, List.length_map, List.length_take]; omega
  simp only [List.append_assoc, List.cons_append, List.nil_append]
  refine C_seq ?_
  refine C_region (l := [0]) rfl ?_
  refine Y_cmp ?_
  refine XD_end ?_
  refine K_then ?_
  refine C_seq ?_
  refine C_cond rfl (fun hc3 => ?_) (fun hc3 => ?_)
  ·replace hc3 := dT hc3
   refine C_skip ?_
   refine K_then ?_
   refine C_seq ?_
   refine C_block ?_
   refine C_seq ?_
   refine C_region (l := [0, 1, 2]) rfl ?_
   refine X_indexAddr rfl rfl rfl rfl F.elem52 (by rfl) (by omega) (by exact SlM.plain (by assumption) (by (simp; omega))) rfl ?_
   refine X_load_el rfl rfl rfl (by assumption) (by exact row_map (by omega)) F.lay3 rfl rfl rfl ?_
   refine Y_assign ?_
   refine XD_end ?_
   refine K_then ?_
   refine C_regionW (l := [0, 1, 2, 3, 4, 5, 6, 7, 8]) [8] rfl ?_
   iterate 2 refine Y_move ?_
   refine Y_fieldAddr F.foff54_0 ?_
   refine Y_load F.lay29 ?_
   refine Y_fieldAddr F.foff54_4 ?_
   refine Y_load F.lay22 ?_
   refine Y_load F.lay37 ?_
   refine X_build rfl rfl F.bld39 (.cons rfl (by constructor) (.cons rfl (by constructor) (.cons rfl (by constructor) (.cons rfl (by constructor) .nil)))) rfl rfl ?_
   refine X_fhW rfl rfl rfl F.ok61 rfl (send_ok M bw s_addr s_epoch s_serial r s_store_a s_waits_a l_a o3_a s_store_c s_waits_c l_c o3_c s_store_l s_waits_l l_l o3_l ho3 hO3 (by omega) x_need_l[k] ⟨3, 0, x_key, OpV.zero, AnswerV.zero, x_serial, ⟨c_v, c_h, c_s, ⟨c_a, c_c, c_l⟩⟩⟩) (by repeat first | exact Rem.here _ | exact Rem.two | apply Rem.skip | apply Rem.over) (putE_some rfl) ?_
   rintro _ M1 hs1 hm1 ⟨hM1, rfl, ⟨o2_a, o2_c, o2_l⟩, ho2, rfl, hO2, ho2l⟩
   subst M1
   simp only at ho2l hO2
   simp only [List.append_assoc, List.cons_append, List.nil_append]
   refine XD_end ?_
   refine K_unw ?_
   refine K_out ?_
   refine K_then ?_
   refine Y_pk [33, 32, 31, 30, 29, 28, 27, 26, 7, 25, 24, 23, 22, 21, 20, 4, 3, 0] ?_
   refine C_region (l := [0, 1]) rfl ?_
   refine X_ari rfl rfl rfl rfl rfl (by exact wrap_in (by decide) (by omega)) rfl ?_
   refine Y_move ?_
   refine XD_end ?_
   refine K_roundO (a' := [(22, _)]) (k + 1) ((bw, rowO (WorkerV.segs ⟨⟨s_addr, s_epoch, ⟨s_store_a, s_store_c, s_store_l⟩, ⟨s_waits_a, s_waits_c, s_waits_l⟩, s_serial⟩, ⟨l_a, l_c, l_l⟩, r, ⟨o2_a, o2_c, o2_l⟩⟩) 67) :: ho2) (.cons (k := 22) rfl (.cons (k := 21) rfl (.cons (k := 20) rfl (.cons (k := 4) rfl (.cons (k := 3) rfl (.cons (k := 0) rfl (.nil))))))) (by exact Mem.le.refl _) (fun w hw => by first | exact hw | exact hw.c) ?_ ?_
   ·refine ⟨⟨o2_a, o2_c, o2_l⟩, ho2, rfl, rfl, by omega, rfl, hO2, ?_⟩
    show o2_l = _
    rw [ho2l, ho3l, List.take_add_one, List.getElem?_eq_getElem (show k < x_need_l.length by omega), List.map_append, List.append_assoc]; rfl
   ·omega
  ·replace hc3 := dF hc3
   refine C_exit ?_
   iterate 2 refine K_exit ?_
   refine K_hit ?_
   refine K_end (.inl rfl) (.nil) (fun w hw => ?_)
   obtain rfl : k = x_need_l.length := by omega
   rw [List.take_length] at ho3l
   refine ⟨_, M, (bw, rowO (WorkerV.segs ⟨⟨s_addr, s_epoch, ⟨s_store_a, s_store_c, s_store_l⟩, ⟨s_waits_a, s_waits_c, s_waits_l⟩, s_serial⟩, ⟨l_a, l_c, l_l⟩, r, ⟨o3_a, o3_c, o3_l⟩⟩) 67) :: ho3, rfl, Mem.le.refl M, ?_, rfl, rfl, ⟨o3_a, o3_c, o3_l⟩, ho3, rfl, hO3, ?_⟩
   ·simp only [WorkerV.segs, Sl.val] at hw ⊢
    exact hw.c
   ·show o3_l = _
    rw [ho3l, hx]

end Go.Proofs.YtpkeilhilpogiaaGreat
/-
  A cell put; where something waits.
-/
set_option linter.unusedSimpArgs false
set_option linter.unusedVariables false
set_option linter.unnecessarySimpa false
set_option maxRecDepth 8000
set_option maxHeartbeats 1000000
namespace Go.Proofs.YtpkeilhilpogiaaGreat
open Go.Esp
theorem F.ok88 : okFn Tryz.prog 88 = true := by kernel_rfl
theorem F.ok89 : okFn Tryz.prog 89 = true := by kernel_rfl
theorem F.ok90 : okFn Tryz.prog 90 = true := by kernel_rfl
theorem F.ok94 : okFn Tryz.prog 94 = true := by kernel_rfl

theorem put_ok9 (M : Mem) (bw : Nat) (s_addr s_epoch s_serial r : Int) (s_store_a s_waits_a l_a o_a : Option Addr) (s_store_c s_waits_c l_c o_c : Nat) (s_store_l : List HeldV) (s_waits_l : List WaitV) (l_l : List PeerV) (o_l : List PostV) (hst : SlK M HeldV.segs 24 ⟨s_store_a, s_store_c, s_store_l⟩) (hsto : ∀ y ∈ s_store_l, HeldV.ok M y) (key : Plc) (c : CellV) (okc : CellV.ok M c) : Fh Tryz.prog 57 [.pointer (some ⟨bw, 0, none⟩), aggV [idSeg key], c.enc] M [(bw, rowO (WorkerV.segs ⟨⟨s_addr, s_epoch, ⟨s_store_a, s_store_c, s_store_l⟩, ⟨s_waits_a, s_waits_c, s_waits_l⟩, s_serial⟩, ⟨l_a, l_c, l_l⟩, r, ⟨o_a, o_c, o_l⟩⟩) 67)] (fun M' v Hout => ∃ st : Sl HeldV, v = .bool (decide ((putR (pls s_store_l) key c.pl).2 = 0)) ∧ Hout = [(bw, rowO (WorkerV.segs ⟨⟨s_addr, s_epoch, st, ⟨s_waits_a, s_waits_c, s_waits_l⟩, s_serial⟩, ⟨l_a, l_c, l_l⟩, r, ⟨o_a, o_c, o_l⟩⟩) 67)] ∧ SlK M' HeldV.segs 24 st ∧ (∀ h ∈ st.l, HeldV.ok M' h) ∧ pls st.l = if (putR (pls s_store_l) key c.pl).2 = 0 then (putR (pls s_store_l) key c.pl).1 else pls s_store_l) := by
  obtain ⟨c_v, c_h, c_s, ⟨c_a, c_c, c_l⟩⟩ := c
  refine fh_enterF (fun H => [(bw, rowO (WorkerV.segs ⟨⟨s_addr, s_epoch, ⟨s_store_a, s_store_c, s_store_l⟩, ⟨s_waits_a, s_waits_c, s_waits_l⟩, s_serial⟩, ⟨l_a, l_c, l_l⟩, r, ⟨o_a, o_c, o_l⟩⟩) 67)] ++ H) (fun _ => rfl) Tryz.func57 rfl Tryz.ntmps57 rfl ?_; intro H
  refine C_seq ?_
  refine C_region (l := [0, 1, 2]) rfl ?_
  refine Y_box ?_; intro b1
  refine Y_box ?_; intro b2
  refine Y_assign ?_
  refine XD_end ?_
  refine K_then ?_
  refine Y_pk [6, 5, 4, 0] ?_
  refine C_seq ?_
  refine C_region_any (l := [0, 1, 2, 3, 4, 5, 6, 7, 8, 9, 10, 11, 12]) #[0, 1, 3, 7, 15, 0, 0, 127, 255, 511, 511, 1023, 4095] _ rfl (by kernel_rfl) (by kernel_rfl) St.drawn (fun _ h => h) ?_
  refine Y_move ?_
  refine Y_nilCheck ?_
  refine Y_fieldAddr F.foff67_0 ?_
  refine Y_fieldAddr F.foff26_2 ?_
  refine Y_load F.lay23 ?_
  refine Y_load F.lay29 ?_
  refine Y_load F.lay37 ?_
  refine X_fn rfl rfl F.ok94 rfl (Put_ok _ ⟨s_store_a, s_store_c, s_store_l⟩ key ⟨c_v, c_h, c_s, ⟨c_a, c_c, c_l⟩⟩ hst hsto okc) rfl ?_
  rintro _ M3 hm3 hv
  obtain ⟨⟨Q1, qe⟩, hQ⟩ : ∃ x, putR (pls s_store_l) key (CellV.pl ⟨c_v, c_h, c_s, ⟨c_a, c_c, c_l⟩⟩) = x := ⟨_, rfl⟩
  replace hv : StE _ _ (putR (pls s_store_l) key (CellV.pl ⟨c_v, c_h, c_s, ⟨c_a, c_c, c_l⟩⟩)) := hv
  rw [hQ] at hv
  obtain ⟨⟨u_a, u_c, u_l⟩, rfl, hu, k_u, l_u⟩ := hv
  simp only at hu l_u
  refine Y_move ?_
  iterate 2 refine Y_extract ?_
  iterate 2 refine Y_assign ?_
  refine XD_end ?_
  refine K_then ?_
  refine Y_pk [8, 7, 6, 0] ?_
  iterate 2 refine C_seq ?_
  refine C_region (l := [0, 1]) rfl ?_
  refine Y_move ?_
  refine Y_cmp ?_
  refine XD_end ?_
  refine K_then ?_
  refine Y_pk [21, 8, 7, 6, 0] ?_
  refine C_cond rfl (fun hc3 => ?_) (fun hc3 => ?_)
  ·replace hc3 := dT hc3
   simp only [AnswerV.eta, MarkV.eta, CellV.eta, HeldV.eta, WaitV.eta, ServerV.eta, PeerV.eta, OpV.eta, ParcelV.eta, PostV.eta, WorkerV.eta] at hc3
   refine C_region (l := [0, 1, 2, 3, 4, 5]) rfl ?_
   iterate 2 refine Y_move ?_
   refine Y_nilCheck ?_
   refine Y_fieldAddr F.foff67_0 ?_
   refine Y_fieldAddr F.foff26_2 ?_
   refine Y_store F.lay23 ?_
   refine XD_end ?_
   refine K_then ?_
   refine Y_pk [8, 6] ?_
   refine C_seq ?_
   refine C_region (l := [0, 1, 2]) rfl ?_
   refine Y_move ?_
   refine Y_cmp ?_
   refine Y_assign ?_
   refine XD_end ?_
   refine K_then ?_
   refine Y_pk [6] ?_
   refine C_ret ?_
   refine K_end (.inr rfl) (.tmp rfl .nil) (fun w hw => ?_)
   refine ⟨_, M3, [(bw, rowO (WorkerV.segs ⟨⟨s_addr, s_epoch, ⟨u_a, u_c, u_l⟩, ⟨s_waits_a, s_waits_c, s_waits_l⟩, s_serial⟩, ⟨l_a, l_c, l_l⟩, r, ⟨o_a, o_c, o_l⟩⟩) 67)], rfl, hm3, ?_, ⟨u_a, u_c, u_l⟩, ?_, rfl, k_u, l_u, ?_⟩
   ·simp only [WorkerV.segs, Sl.val] at hw ⊢
    exact hw.c
   ·rw [hQ]
    rfl
   ·rw [hQ]
    rw [if_pos (by show qe = 0; first | assumption | omega)]
    exact hu
  ·replace hc3 := dF hc3
   simp only [AnswerV.eta, MarkV.eta, CellV.eta, HeldV.eta, WaitV.eta, ServerV.eta, PeerV.eta, OpV.eta, ParcelV.eta, PostV.eta, WorkerV.eta] at hc3
   refine C_skip ?_
   refine K_then ?_
   refine Y_pk [8, 6] ?_
   refine C_seq ?_
   refine C_region (l := [0, 1, 2]) rfl ?_
   refine Y_move ?_
   refine Y_cmp ?_
   refine Y_assign ?_
   refine XD_end ?_
   refine K_then ?_
   refine Y_pk [6] ?_
   refine C_ret ?_
   refine K_end (.inr rfl) (.tmp rfl .nil) (fun w hw => ?_)
   refine ⟨_, M3, [(bw, rowO (WorkerV.segs ⟨⟨s_addr, s_epoch, ⟨s_store_a, s_store_c, s_store_l⟩, ⟨s_waits_a, s_waits_c, s_waits_l⟩, s_serial⟩, ⟨l_a, l_c, l_l⟩, r, ⟨o_a, o_c, o_l⟩⟩) 67)], rfl, hm3, ?_, ⟨s_store_a, s_store_c, s_store_l⟩, ?_, rfl, hst.mono hm3, fun h hh => (hsto h hh).mono hm3, ?_⟩
   ·simp only [WorkerV.segs, Sl.val] at hw ⊢
    exact hw.c
   ·rw [hQ]
    rfl
   ·rw [hQ]
    rw [if_neg (by show ¬ qe = 0; first | assumption | omega)]

theorem findw_ok (M : Mem) (w : WaitV) (key : Plc) (hw0 : WaitV.ok M w) : Fs Tryz.prog 89 [w.enc, aggV [idSeg key]] M (fun v => v = Value.int .i64 (thanI w.key key)) := by
  obtain ⟨w_key, w_client, w_req, ⟨w_answer_code, w_answer_version, w_answer_has, w_answer_val⟩, w_serial, ⟨w_need_a, w_need_c, w_need_l⟩⟩ := w
  have k_w_need : SlK M (oneI .i64) 1 ⟨w_need_a, w_need_c, w_need_l⟩ := hw0.h0
  have s_w_need : SlM M w_need_a (w_need_l.map (oneI .i64)) 1 := k_w_need.h1
  have n_w_need : (w_need_l.map (oneI .i64)).length = w_need_l.length := List.length_map ..
  have m_w_need : w_need_l.length ≤ 9223372036854775807 := k_w_need.h2
  have c_w_need : w_need_l.length ≤ w_need_c := k_w_need.h3
  refine fs_enter Tryz.func89 rfl Tryz.ntmps89 rfl ?_; intro H
  refine C_seq ?_
  refine C_region (l := [0, 1, 2]) rfl ?_
  refine Y_box ?_; intro b1
  refine Y_box ?_; intro b2
  refine Y_assign ?_
  refine XD_end ?_
  refine K_then ?_
  refine Y_pk [4, 3, 2] ?_
  refine C_seq ?_
  refine C_region (l := [0, 1, 2, 3]) rfl ?_
  refine Y_load F.lay54 ?_
  refine Y_load F.lay29 ?_
  refine X_fs rfl rfl F.ok90 rfl (than_ok _ ⟨_, _, _, ⟨_, _, _, _⟩, _, ⟨_, _, _⟩⟩ _ (by assumption)) rfl ?_
  rintro _ rfl
  refine Y_assign ?_
  refine XD_end ?_
  refine K_then ?_
  refine Y_pk [4] ?_
  refine C_ret ?_
  refine K_end (.inr rfl) (.tmp rfl .nil) (fun w hw => ?_)
  refine ⟨_, rfl, (hw.c), ?_⟩
  clear hw
  rfl

theorem BSW_rd (M : Mem) (Hin : Hp) (l : Sl WaitV) (key : Plc) (gf : FuncId) (caps : List Value) (cmp : WaitV → Int) (hl : RdS M Hin l.a (l.l.map WaitV.segs) 28) (bl : l.l.length ≤ 1000000) (hok : okFn Tryz.prog gf = true) (hc : ∀ x ∈ l.l, Fo Tryz.prog gf ([x.enc, (aggV [idSeg key])] ++ caps) M Hin (fun M' v => M' = M ∧ v = .int .i64 (cmp x))) (hmono : ∀ i j (hi : i < l.l.length) (hj : j < l.l.length), i ≤ j → 0 ≤ cmp l.l[i] → 0 ≤ cmp l.l[j]) : Fo Tryz.prog 88 [l.val, (aggV [idSeg key]), .func (.func gf) #[] caps.toArray] M Hin (fun M' v => M' = M ∧ v = .tuple #[.int .i64 ((bsAt cmp l.l : Nat) : Int), .bool (bsIs cmp l.l)]) := by
  have nl : (l.l.map WaitV.segs).length = l.l.length := List.length_map ..
  refine fo_enter Tryz.func88 rfl Tryz.ntmps88 rfl ?_; intro H
  have hrd := hl.app H
  refine C_seq ?_
  refine C_region (l := [0, 1, 2]) rfl ?_
  refine Y_box ?_; intro b1
  iterate 2 refine Y_assign ?_
  refine XD_end ?_
  refine K_then ?_
  refine Y_pk [7, 6, 4, 0, 2] ?_
  refine C_seq ?_
  replace hrd := RdS.cnt (H' := (b1, rowO [idSeg key] 29) :: (Hin ++ H)) hrd (by intro zz; simp only [cnt_cons]; omega)
  refine C_region (l := [0, 1, 2]) rfl ?_
  refine Y_move ?_
  refine Y_len_sl F.elem24 ?_
  refine Y_assign ?_
  refine XD_end ?_
  refine K_then ?_
  refine Y_pk [8, 7, 6, 4, 0, 2] ?_
  refine C_seq ?_
  refine C_region (l := [0, 1, 2]) rfl ?_
  refine Y_move ?_
  iterate 2 refine Y_assign ?_
  refine XD_end ?_
  refine K_then ?_
  refine Y_pk [10, 9, 8, 7, 6, 4, 0, 2] ?_
  refine C_seq ?_
  refine C_block ?_
  refine Y_pk [9, 10, 8, 7, 6, 4, 0, 2] ?_
  refine C_loopS (.succ (.succ .zero)) (fun (x : Nat × Nat) z => z = [(9, .int .i64 (x.1 : Int)), (10, .int .i64 (x.2 : Int))] ∧ x.1 ≤ x.2 ∧ x.2 ≤ l.l.length ∧ (∀ y, y < x.1 → bsP cmp l.l y = false) ∧ (x.2 < l.l.length → bsP cmp l.l x.2 = true)) (fun x => x.2 - x.1) ((0, l.l.length)) (⟨rfl, Nat.zero_le _, Nat.le_refl _, fun y h => (by cases h), fun h => (by omega)⟩) ?_
  rintro ⟨a, b⟩ z ⟨hz, h1, h2, h3, h4⟩
  simp only at hz h1 h2 h3 h4
  subst hz
  iterate 2 refine C_seq ?_
  refine C_region (l := [0, 1, 2]) rfl ?_
  iterate 2 refine Y_move ?_
  refine Y_cmp ?_
  refine XD_end ?_
  refine K_then ?_
  refine C_cond rfl (fun hc2 => ?_) (fun hc2 => ?_)
  ·replace hc2 := dT hc2
   refine C_skip ?_
   refine K_then ?_
   refine C_block ?_
   refine C_seq ?_
   refine C_region (l := [0, 1, 2, 3, 4, 5, 6]) rfl ?_
   iterate 2 refine Y_move ?_
   refine X_ari rfl rfl rfl rfl rfl (by exact wrap_in (by decide) (by omega)) rfl ?_
   refine X_conv rfl rfl rfl Tryz.underlying3 Tryz.underlying144 (by exact wrap_u64_in (by decide) (by omega)) rfl ?_
   refine X_shift rfl rfl rfl rfl (by decide) (shr_lit 1 (by decide)) rfl rfl ?_
   refine X_conv rfl rfl rfl Tryz.underlying144 Tryz.underlying3 (by exact wrap_in (by decide) (by omega)) rfl ?_
   have hm9 : (a + b) / 2 < l.l.length := (by have h8 : a < b := (by omega); omega)
   have e9 : ((a : Int) + (b : Int)) / 2 ^ 1 = (((a + b) / 2 : Nat) : Int) := by omega
   rw [e9]
   refine Y_assign ?_
   refine XD_end ?_
   refine K_then ?_
   refine C_seq ?_
   refine C_region_any (l := [0, 1, 2, 3, 4, 5, 6, 7]) #[0, 0, 0, 6, 14, 0, 63, 127] _ rfl (by kernel_rfl) (by kernel_rfl) St.drawn (fun _ h => h) ?_
   iterate 3 refine Y_move ?_
   refine X_indexAddr rfl rfl rfl rfl F.elem24 (by rfl) (by omega) (by exact RdS.plain (by assumption) (by (simp; omega))) rfl ?_
   refine X_load_rd rfl rfl rfl (by assumption) (by exact row_map (by omega)) F.lay54 rfl rfl rfl ?_
   refine Y_load F.lay29 ?_
   refine X_foV rfl rfl rfl hok rfl rfl (hc _ (List.getElem_mem (n := (a + b) / 2) (by omega))) (by repeat first | exact Rem.here _ | exact Rem.two | apply Rem.skip | apply Rem.over) (putE_some rfl) ?_
   rintro _ M1 _ ⟨hM1, rfl⟩; subst M1
   refine Y_cmp ?_
   refine XD_end ?_
   refine K_then ?_
   refine C_cond rfl (fun hc3 => ?_) (fun hc3 => ?_)
   ·replace hc3 := dT hc3
    simp only [List.get_eq_getElem] at hc3
    refine C_region (l := [0, 1, 2]) rfl ?_
    refine Y_move ?_
    refine X_ari rfl rfl rfl rfl rfl (by exact wrap_in (by decide) (by omega)) rfl ?_
    refine Y_assign ?_
    refine XD_end ?_
    refine K_out ?_
    refine K_roundS (a' := [(9, _), (10, _)]) (((a + b) / 2 + 1, b)) (.cons (k := 9) rfl (.cons (k := 10) rfl (.cons (k := 8) rfl (.cons (k := 7) rfl (.cons (k := 6) rfl (.cons (k := 4) rfl (.cons (k := 0) rfl (.cons (k := 2) rfl (.nil))))))))) (fun w hw => by first | exact hw | exact hw.c) ?_ ?_
    ·refine ⟨rfl, (by show (a + b) / 2 + 1 ≤ b; omega), h2, fun y hy => ?_, h4⟩
     have hy2 : y < (a + b) / 2 + 1 := hy
     rw [bsP_at (by omega)]
     refine decide_eq_false (fun hq => ?_)
     have := hmono y ((a + b) / 2) (by omega) hm9 (by omega) hq
     omega
    ·show b - ((a + b) / 2 + 1) < b - a; omega
   ·replace hc3 := dF hc3
    simp only [List.get_eq_getElem] at hc3
    refine C_region (l := [0, 1]) rfl ?_
    refine Y_move ?_
    refine Y_assign ?_
    refine XD_end ?_
    refine K_out ?_
    refine K_roundS (a' := [(9, _), (10, _)]) ((a, (a + b) / 2)) (.cons (k := 9) rfl (.cons (k := 10) rfl (.cons (k := 8) rfl (.cons (k := 7) rfl (.cons (k := 6) rfl (.cons (k := 4) rfl (.cons (k := 0) rfl (.cons (k := 2) rfl (.nil))))))))) (fun w hw => by first | exact hw | exact hw.c) ?_ ?_
    ·exact ⟨rfl, (by show a ≤ (a + b) / 2; omega), (by show (a + b) / 2 ≤ l.l.length; omega), h3, fun _ => by rw [bsP_at hm9]; exact decide_eq_true (by omega)⟩
    ·show (a + b) / 2 - a < b - a; omega
  ·replace hc2 := dF hc2
   refine C_exit ?_
   iterate 2 refine K_exit ?_
   refine K_hit ?_
   refine K_then ?_
   refine Y_pk [9, 8, 7, 6, 4, 0, 2] ?_
   refine C_seq ?_
   refine C_region_any (l := [0, 1, 2, 3, 4, 5, 6, 7, 8, 9, 10, 11, 12, 13, 14, 15]) #[0, 0, 0, 6, 14, 30, 30, 30, 222, 478, 30, 2046, 4094, 8190, 4095, 32767] _ rfl (by kernel_rfl) (by kernel_rfl) St.drawn (fun _ h => h) ?_
   iterate 3 refine Y_move ?_
   refine Y_cmp ?_
   refine Y_move ?_
   refine XD_part 39 rfl (fun hc4 => ?_) (fun hc4 => ?_)
   ·replace hc4 := dT hc4
    iterate 3 refine Y_move ?_
    refine X_indexAddr rfl rfl rfl rfl F.elem24 (by rfl) (by omega) (by exact RdS.plain (by assumption) (by (simp; omega))) rfl ?_
    refine X_load_rd rfl rfl rfl (by assumption) (by exact row_map (by omega)) F.lay54 rfl rfl rfl ?_
    refine Y_load F.lay29 ?_
    refine X_foV rfl rfl rfl hok rfl rfl (hc _ (List.getElem_mem (n := a) (by omega))) (by repeat first | exact Rem.here _ | exact Rem.two | apply Rem.skip | apply Rem.over) (putE_some rfl) ?_
    rintro _ M1 _ ⟨hM1, rfl⟩; subst M1
    refine Y_cmp ?_
    refine Y_pick ?_
    iterate 2 refine Y_assign ?_
    refine XD_end ?_
    refine K_then ?_
    refine Y_pk [7, 6] ?_
    refine C_ret ?_
    refine K_end (.inr rfl) (.tmp rfl (.tmp rfl .nil)) (fun w hw => ?_)
    obtain rfl : a = b := by omega
    have hat : bsAt cmp l.l = a := firstP_at h2 h3 h4
    refine ⟨_, M, rfl, Mem.le.refl M, hw.c, rfl, ?_⟩
    clear hw
    rw [hat]
    (rw [bsIs_lt hat (by omega)]; rfl)
   ·replace hc4 := dF hc4
    iterate 8 refine Y_skip ?_
    refine Y_pick ?_
    iterate 2 refine Y_assign ?_
    refine XD_end ?_
    refine K_then ?_
    refine Y_pk [7, 6] ?_
    refine C_ret ?_
    refine K_end (.inr rfl) (.tmp rfl (.tmp rfl .nil)) (fun w hw => ?_)
    obtain rfl : a = b := by omega
    have hat : bsAt cmp l.l = a := firstP_at h2 h3 h4
    refine ⟨_, M, rfl, Mem.le.refl M, hw.c, rfl, ?_⟩
    clear hw
    rw [hat]
    (rw [bsIs_ge hat (by omega)]; rfl)

theorem find_ok9 (M : Mem) (bw : Nat) (s_addr s_epoch s_serial r : Int) (s_store_a s_waits_a l_a o_a : Option Addr) (s_store_c s_waits_c l_c o_c : Nat) (s_store_l : List HeldV) (s_waits_l : List WaitV) (l_l : List PeerV) (o_l : List PostV) (hw0 : Hp) (hW : OSl 54 28 (.slice s_waits_a s_waits_l.length s_waits_c) hw0 (s_waits_l.map WaitV.segs)) (hLw : s_waits_l.length ≤ 1000) (okw : ∀ x ∈ s_waits_l, WaitV.ok M x) (hwo : WtsOk (wtl s_waits_l)) (key : Plc) : Fo Tryz.prog 53 [.pointer (some ⟨bw, 0, none⟩), aggV [idSeg key]] M ((bw, rowO (WorkerV.segs ⟨⟨s_addr, s_epoch, ⟨s_store_a, s_store_c, s_store_l⟩, ⟨s_waits_a, s_waits_c, s_waits_l⟩, s_serial⟩, ⟨l_a, l_c, l_l⟩, r, ⟨o_a, o_c, o_l⟩⟩) 67) :: hw0) (fun M' v => M' = M ∧ v = .tuple #[.int .i64 ((bsAt (wtC key) s_waits_l : Nat) : Int), .bool (bsIs (wtC key) s_waits_l)]) := by
  have hW9 : OSl 54 28 (.slice s_waits_a (s_waits_l.map WaitV.segs).length s_waits_c) hw0 (s_waits_l.map WaitV.segs) := by rw [List.length_map]; exact hW
  refine fo_enter Tryz.func53 rfl Tryz.ntmps53 rfl ?_; intro H
  refine C_seq ?_
  refine C_region (l := [0, 1, 2]) rfl ?_
  refine Y_box ?_; intro b1
  iterate 2 refine Y_assign ?_
  refine XD_end ?_
  refine K_then ?_
  refine Y_pk [5, 4, 3, 0] ?_
  refine C_seq ?_
  refine C_region_any (l := [0, 1, 2, 3, 4, 5, 6, 7, 8, 9, 10]) #[0, 1, 3, 7, 15, 0, 63, 127, 127, 511, 1023] _ rfl (by kernel_rfl) (by kernel_rfl) St.drawn (fun _ h => h) ?_
  refine Y_move ?_
  refine Y_nilCheck ?_
  refine Y_fieldAddr F.foff67_0 ?_
  refine Y_fieldAddr F.foff26_3 ?_
  refine Y_load F.lay24 ?_
  refine Y_load F.lay29 ?_
  refine X_fo rfl rfl F.ok88 rfl (BSW_rd _ hw0 ⟨s_waits_a, s_waits_c, s_waits_l⟩ key 89 [] (wtC key) (OSl.rd hW _) (by show s_waits_l.length ≤ 1000000; omega) F.ok89 (fun x hx => (findw_ok M x key (okw x hx)).foE hw0) (wtC_mono hwo key)) (by repeat first | exact Rem.here _ | exact Rem.two | apply Rem.skip | apply Rem.over) (putE_some rfl) ?_
  rintro _ M1 _ ⟨hM1, rfl⟩; subst M1
  iterate 2 refine Y_extract ?_
  iterate 2 refine Y_assign ?_
  refine XD_end ?_
  refine K_then ?_
  refine Y_pk [5, 4] ?_
  refine C_ret ?_
  refine K_end (.inr rfl) (.tmp rfl (.tmp rfl .nil)) (fun w hw => ?_)
  exact ⟨_, M, rfl, Mem.le.refl M, hw.c, rfl, rfl⟩

end Go.Proofs.YtpkeilhilpogiaaGreat
/-
  Numbers: some of them gone.
-/
set_option linter.unusedSimpArgs false
set_option linter.unusedVariables false
set_option linter.unnecessarySimpa false
set_option maxRecDepth 8000
set_option maxHeartbeats 1000000
namespace Go.Proofs.YtpkeilhilpogiaaGreat
open Go.Esp
theorem F.ok118 : okFn Tryz.prog 118 = true := by kernel_rfl

theorem CloneI_nil (M : Mem) (c : Nat) (l : List IntV) (k : SlK M (oneI .i64) 1 ⟨none, c, l⟩) (hb : l.length ≤ 1000000) : Fh Tryz.prog 102 [.slice none l.length c] M [] (fun M' v Hout => M' = M ∧ OSl 3 1 v Hout (l.map (oneI .i64))) := by
  have hl0 : l = [] := SlM.none_nil k.h1
  subst hl0
  have hl0 : ([] : List IntV).map (oneI .i64) = [] := rfl
  refine fh_enter Tryz.func102 rfl Tryz.ntmps102 rfl ?_; intro H
  refine C_seq ?_
  refine C_region (l := [0]) rfl ?_
  refine Y_assign ?_
  refine XD_end ?_
  refine K_then ?_
  iterate 2 refine C_seq ?_
  refine C_region (l := [0, 1]) rfl ?_
  refine Y_move ?_
  refine Y_nil Tryz.underlying52 ?_
  refine XD_end ?_
  refine K_then ?_
  refine Y_pk [4, 2, 0] ?_
  refine C_cond rfl (fun hc1 => ?_) (fun hc1 => ?_)
  ·skip
   refine C_seq ?_
   refine C_region (l := [0]) rfl ?_
   refine Y_assign ?_
   refine XD_end ?_
   refine K_then ?_
   refine Y_pk [2, 0] ?_
   refine C_ret ?_
   refine K_ret ?_
   refine K_end (.inr rfl) (.tmp rfl .nil) (fun w hw => ?_)
   exact ⟨_, M, [], rfl, Mem.le.refl M, hw.c, rfl, by rw [hl0]; exact OSl.nil⟩
  ·skip
   (exfalso; simp [eqX] at hc1; done)
theorem CloneI_some (M : Mem) (ad : Addr) (c : Nat) (l : List IntV) (k : SlK M (oneI .i64) 1 ⟨some ad, c, l⟩) (hb : l.length ≤ 1000000) : Fh Tryz.prog 102 [.slice (some ad) l.length c] M [] (fun M' v Hout => M' = M ∧ OSl 3 1 v Hout (l.map (oneI .i64))) := by
  have hml : l.length = (l.map (oneI .i64)).length := (List.length_map ..).symm
  refine fh_enter Tryz.func102 rfl Tryz.ntmps102 rfl ?_; intro H
  refine C_seq ?_
  refine C_region (l := [0]) rfl ?_
  refine Y_assign ?_
  refine XD_end ?_
  refine K_then ?_
  iterate 2 refine C_seq ?_
  refine C_region (l := [0, 1]) rfl ?_
  refine Y_move ?_
  refine Y_nil Tryz.underlying52 ?_
  refine XD_end ?_
  refine K_then ?_
  refine Y_pk [4, 2, 0] ?_
  refine C_cond rfl (fun hc1 => ?_) (fun hc1 => ?_)
  ·skip
   (exfalso; simp [eqX] at hc1; done)
  ·skip
   refine C_skip ?_
   refine K_then ?_
   refine Y_pk [2, 0] ?_
   refine C_seq ?_
   refine C_region (l := [0, 1, 2, 3]) rfl ?_
   refine X_buildSliceF rfl rfl F.elem52 F.zero3 rfl rfl (.nil) rfl rfl (by simp only [List.map_cons, List.map_nil] <;> rfl) rfl ?_; intro b2 hob3
   refine Y_move ?_
   refine X_append (m := 1000000) rfl rfl rfl rfl rfl F.elem52 F.zero3 (by rfl) rfl (by assumption) (by repeat first | exact Rem.here _ | exact Rem.two | apply Rem.skip | apply Rem.over) (SlM.src k.h1 (rows_one IntV.flat _) hml) (by (simp; omega)) (by decide) rfl ?_; intro v6 hs5 ho4; obtain ⟨adv6, cpv6, rfl⟩ := ho4.val
   refine Y_assign ?_
   refine XD_end ?_
   refine K_then ?_
   refine Y_pk [2] ?_
   refine C_ret ?_
   refine K_end (.inr rfl) (.tmp rfl .nil) (fun w hw => ?_)
   exact ⟨_, M, _, rfl, Mem.le.refl M, hw.c, rfl, by assumption⟩

theorem CloneI_ok (M : Mem) (a : Option Addr) (c : Nat) (l : List IntV) (k : SlK M (oneI .i64) 1 ⟨a, c, l⟩) (hb : l.length ≤ 1000000) : Fh Tryz.prog 102 [.slice a l.length c] M [] (fun M' v Hout => M' = M ∧ OSl 3 1 v Hout (l.map (oneI .i64))) := by
  cases a with
  |none => exact CloneI_nil M c l k hb
  |some ad => exact CloneI_some M ad c l k hb

theorem IndexII (M : Mem) (hs h0 : Hp) (a : Option Addr) (c : Nat) (l : List IntV) (ho : OSl 3 1 (.slice a l.length c) hs (l.map (oneI .i64))) (bl : l.length ≤ 1000000) (gf : FuncId) (caps : List Value) (p : IntV → Bool) (Inv : Nat → Hp → Prop) (hok : okFn Tryz.prog gf = true) (hc : ∀ j (hj : j < l.length) h, Inv j h → Fh Tryz.prog gf ([.int .i64 l[j]] ++ caps) M h (fun M' v Hout => M' = M ∧ v = .bool (p l[j]) ∧ Inv (j + 1) Hout)) (hi : Inv 0 h0) : Fh Tryz.prog 118 [.slice a l.length c, .func (.func gf) #[] caps.toArray] M (hs ++ h0) (fun M' v Hout => M' = M ∧ v = .int .i64 (idxF p l) ∧ ∃ h', Hout = hs ++ h' ∧ Inv (if idxF p l = -1 then l.length else (idxF p l).toNat + 1) h') := by
  have nl : (l.map (oneI .i64)).length = l.length := List.length_map ..
  have ho9 : OSl 3 1 (.slice a (l.map (oneI .i64)).length c) hs (l.map (oneI .i64)) := by rw [nl]; exact ho
  refine fh_enterF (fun H => hs ++ (h0 ++ H)) (fun _ => List.append_assoc _ _ _) Tryz.func118 rfl Tryz.ntmps118 rfl ?_; intro H
  refine C_seq ?_
  refine C_region (l := [0]) rfl ?_
  refine Y_assign ?_
  refine XD_end ?_
  refine K_then ?_
  iterate 2 refine C_seq ?_
  refine C_region (l := [0, 1, 2]) rfl ?_
  refine Y_move ?_
  refine Y_len_sl F.elem52 ?_
  refine Y_move ?_
  refine XD_end ?_
  refine K_then ?_
  refine Y_pk [8, 7, 4, 0, 1] ?_
  refine C_block ?_
  refine Y_pk [8, 7, 4, 0, 1] ?_
  refine C_loopO (Hin := h0) (.succ .zero) (by repeat first | exact Rem.here _ | exact Rem.two | apply Rem.skip | apply Rem.over) (fun (k : Nat) M1 h1 z => M1 = M ∧ z = [(8, .int .i64 (k : Int))] ∧ k ≤ l.length ∧ Inv k h1 ∧ ∀ j (h : j < k) (h2 : j < l.length), p l[j] = false) (fun k => l.length - k) (0) (⟨rfl, rfl, by omega, hi, fun j hj => by omega⟩) ?_
  rintro k M1 h1 z hm1 ⟨hM1, rfl, hk, hin, hI⟩
  subst M1
  refine C_seq ?_
  refine C_region (l := [0]) rfl ?_
  refine Y_cmp ?_
  refine XD_end ?_
  refine K_then ?_
  refine C_seq ?_
  refine C_cond rfl (fun hc1 => ?_) (fun hc1 => ?_)
  ·skip
   replace hc1 := dT hc1
   refine C_skip ?_
   refine K_then ?_
   refine C_seq ?_
   refine C_block ?_
   refine C_seq ?_
   refine C_region (l := [0, 1]) rfl ?_
   refine Y_move ?_
   refine Y_assign ?_
   refine XD_end ?_
   refine K_then ?_
   refine C_seq ?_
   refine C_regionW (l := [0, 1, 2, 3, 4, 5]) [5] rfl ?_
   iterate 3 refine Y_move ?_
   refine X_indexAddr rfl rfl rfl rfl F.elem52 (by rfl) (by omega) (by exact OSl.plain (by assumption) (by (simp; omega))) rfl ?_
   refine X_load_osl rfl rfl rfl (by assumption) (by repeat first | exact Rem.here _ | exact Rem.two | apply Rem.skip | apply Rem.over) (by exact row_map (by omega)) F.lay3 rfl rfl rfl ?_
   refine X_fhVW rfl rfl rfl rfl hok rfl rfl (hc k (by omega) h1 hin) (by repeat first | exact Rem.here _ | exact Rem.two | apply Rem.skip | apply Rem.over) (putE_some rfl) ?_
   rintro _ M1 h7 hm7 ⟨hM1, rfl, hin7⟩
   subst M1
   refine XD_end ?_
   refine K_unw ?_
   refine K_then ?_
   refine C_cond rfl (fun hc2 => ?_) (fun hc2 => ?_)
   ·skip
    have hP := hc2
    refine C_seq ?_
    refine C_region (l := [0, 1]) rfl ?_
    refine Y_move ?_
    refine Y_assign ?_
    refine XD_end ?_
    refine K_then ?_
    refine C_ret ?_
    refine K_retB ?_
    iterate 2 refine K_ret ?_
    refine K_retB ?_
    refine K_ret ?_
    refine K_end (.inr rfl) (.tmp rfl .nil) (fun w hw => ?_)
    have e9 : idxF p l = ((k : Nat) : Int) := idxF_at (by omega) (fun j hj => hI j hj _) hP
    refine ⟨_, M, hs ++ h7, rfl, Mem.le.refl M, hw.c, rfl, congrArg (Value.int .i64) e9.symm, h7, rfl, ?_⟩
    rw [e9, if_neg (by omega), Int.toNat_natCast]
    exact hin7
   ·skip
    have hP := hc2
    refine C_skip ?_
    refine K_out ?_
    refine K_then ?_
    refine C_region (l := [0, 1]) rfl ?_
    refine X_ari rfl rfl rfl rfl rfl (by exact wrap_in (by decide) (by omega)) rfl ?_
    refine Y_move ?_
    refine XD_end ?_
    refine K_roundO (a' := [(8, _)]) (k + 1) (h7) (.cons (k := 8) rfl (.cons (k := 7) rfl (.cons (k := 4) rfl (.cons (k := 0) rfl (.cons (k := 1) rfl (.nil)))))) (by exact Mem.le.refl _) (fun w hw => by first | exact hw | exact hw.c) ?_ ?_
    ·refine ⟨rfl, rfl, by omega, hin7, fun j hj h2 => ?_⟩
     rcases Nat.lt_or_ge j k with h9 | h9
     ·exact hI j h9 h2
     ·obtain rfl : j = k := by omega
      exact hP
    ·omega
  ·skip
   replace hc1 := dF hc1
   refine C_exit ?_
   iterate 2 refine K_exit ?_
   refine K_hit ?_
   refine K_then ?_
   refine Y_pk [4] ?_
   refine C_seq ?_
   refine C_region (l := [0]) rfl ?_
   refine Y_assign ?_
   refine XD_end ?_
   refine K_then ?_
   refine C_ret ?_
   refine K_end (.inr rfl) (.tmp rfl .nil) (fun w hw => ?_)
   obtain rfl : k = l.length := by omega
   have e9 : idxF p l = -1 := idxF_none (fun j hj => hI j (by omega) hj)
   refine ⟨_, M, hs ++ h1, rfl, Mem.le.refl M, hw.c, rfl, congrArg (Value.int .i64) e9.symm, h1, rfl, ?_⟩
   rw [if_pos e9]
   exact hin

theorem DeleteII_no (M : Mem) (hs h0 : Hp) (a : Option Addr) (c : Nat) (l : List IntV) (ho : OSl 3 1 (.slice a l.length c) hs (l.map (oneI .i64))) (bl : l.length ≤ 1000000) (gf : FuncId) (caps : List Value) (p : IntV → Bool) (Inv : Nat → Hp → Prop) (hok : okFn Tryz.prog gf = true) (hc : ∀ j (hj : j < l.length) h, Inv j h → Fh Tryz.prog gf ([.int .i64 l[j]] ++ caps) M h (fun M' v Hout => M' = M ∧ v = .bool (p l[j]) ∧ Inv (j + 1) Hout)) (hi : Inv 0 h0) (h : idxF p l = -1) : Fh Tryz.prog 101 [.slice a l.length c, .func (.func gf) #[] caps.toArray] M (hs ++ h0) (fun M' v Hout => M' = M ∧ ∃ hs' h', Hout = hs' ++ h' ∧ OSl 3 1 v hs' ((kept p l).map (oneI .i64)) ∧ Inv l.length h') := by
  refine fh_enterF (fun H => hs ++ (h0 ++ H)) (fun _ => List.append_assoc _ _ _) Tryz.func101 rfl Tryz.ntmps101 rfl ?_; intro H
  refine C_seq ?_
  refine C_region (l := [0]) rfl ?_
  refine Y_assign ?_
  refine XD_end ?_
  refine K_then ?_
  refine C_seq ?_
  refine C_regionW (l := [0, 1, 2, 3]) [2] rfl ?_
  iterate 2 refine Y_move ?_
  refine X_fhW rfl rfl rfl F.ok118 rfl (IndexII M hs h0 a c l ho bl gf caps p Inv hok hc hi) (by repeat first | exact Rem.here _ | exact Rem.two | apply Rem.skip | apply Rem.over) (putE_some rfl) ?_
  rintro _ M1 _ hm1 ⟨hM1, rfl, h5, rfl, hin5⟩; subst M1
  rw [h]
  rw [if_pos h] at hin5
  simp only [List.append_assoc]
  refine Y_assign ?_
  refine XD_end ?_
  refine K_unw ?_
  refine K_then ?_
  refine Y_pk [5, 4, 0, 1] ?_
  iterate 2 refine C_seq ?_
  refine C_region (l := [0, 1]) rfl ?_
  refine Y_move ?_
  refine Y_cmp ?_
  refine XD_end ?_
  refine K_then ?_
  refine Y_pk [12, 5, 4, 0, 1] ?_
  refine C_cond rfl (fun hc1 => ?_) (fun hc1 => ?_)
  ·replace hc1 := dT hc1
   simp only [AnswerV.eta, MarkV.eta, CellV.eta, HeldV.eta, WaitV.eta, ServerV.eta, PeerV.eta, OpV.eta, ParcelV.eta, PostV.eta, WorkerV.eta] at hc1
   refine C_seq ?_
   refine C_region (l := [0, 1]) rfl ?_
   refine Y_move ?_
   refine Y_assign ?_
   refine XD_end ?_
   refine K_then ?_
   refine Y_pk [4, 5, 0, 1] ?_
   refine C_ret ?_
   refine K_ret ?_
   refine K_end (.inr rfl) (.tmp rfl .nil) (fun w hw => ?_)
   exact ⟨_, M, hs ++ h5, rfl, Mem.le.refl M, hw.c, rfl, hs, h5, rfl, by rw [kept_none h]; exact ho, hin5⟩
  ·replace hc1 := dF hc1
   simp only [AnswerV.eta, MarkV.eta, CellV.eta, HeldV.eta, WaitV.eta, ServerV.eta, PeerV.eta, OpV.eta, ParcelV.eta, PostV.eta, WorkerV.eta] at hc1
   (exfalso; simp [eqX] at hc1; done)

theorem DeleteII_yes (M : Mem) (hs h0 : Hp) (b : Nat) (c : Nat) (l : List IntV) (ho : OSl 3 1 (.slice (some ⟨b, 0, none⟩) l.length c) hs (l.map (oneI .i64))) (bl : l.length ≤ 1000000) (gf : FuncId) (caps : List Value) (p : IntV → Bool) (Inv : Nat → Hp → Prop) (hok : okFn Tryz.prog gf = true) (hc : ∀ j (hj : j < l.length) h, Inv j h → Fh Tryz.prog gf ([.int .i64 l[j]] ++ caps) M h (fun M' v Hout => M' = M ∧ v = .bool (p l[j]) ∧ Inv (j + 1) Hout)) (hi : Inv 0 h0) (i0 : Nat) (h : idxF p l = (i0 : Nat)) (hi0 : i0 < l.length) (hk0 : kept p (l.take (i0 + 1)) = l.take i0) : Fh Tryz.prog 101 [.slice (some ⟨b, 0, none⟩) l.length c, .func (.func gf) #[] caps.toArray] M (hs ++ h0) (fun M' v Hout => M' = M ∧ ∃ hs' h', Hout = hs' ++ h' ∧ OSl 3 1 v hs' ((kept p l).map (oneI .i64)) ∧ Inv l.length h') := by
  refine fh_enterF (fun H => hs ++ (h0 ++ H)) (fun _ => List.append_assoc _ _ _) Tryz.func101 rfl Tryz.ntmps101 rfl ?_; intro H
  refine C_seq ?_
  refine C_region (l := [0]) rfl ?_
  refine Y_assign ?_
  refine XD_end ?_
  refine K_then ?_
  refine C_seq ?_
  refine C_regionW (l := [0, 1, 2, 3]) [2] rfl ?_
  iterate 2 refine Y_move ?_
  refine X_fhW rfl rfl rfl F.ok118 rfl (IndexII M hs h0 (some ⟨b, 0, none⟩) c l ho bl gf caps p Inv hok hc hi) (by repeat first | exact Rem.here _ | exact Rem.two | apply Rem.skip | apply Rem.over) (putE_some rfl) ?_
  rintro _ M1 _ hm1 ⟨hM1, rfl, h5, rfl, hin5⟩; subst M1
  rw [h]
  rw [h] at hin5
  rw [if_neg (by omega), Int.toNat_natCast] at hin5
  simp only [List.append_assoc]
  refine Y_assign ?_
  refine XD_end ?_
  refine K_unw ?_
  refine K_then ?_
  refine Y_pk [5, 4, 0, 1] ?_
  iterate 2 refine C_seq ?_
  refine C_region (l := [0, 1]) rfl ?_
  refine Y_move ?_
  refine Y_cmp ?_
  refine XD_end ?_
  refine K_then ?_
  refine Y_pk [12, 5, 4, 0, 1] ?_
  refine C_cond rfl (fun hc1 => ?_) (fun hc1 => ?_)
  ·skip
   replace hc1 := dT hc1
   (exfalso; omega)
  ·skip
   replace hc1 := dF hc1
   refine C_skip ?_
   refine K_then ?_
   refine Y_pk [5, 4, 0, 1] ?_
   iterate 2 refine C_seq ?_
   refine C_region (l := [0, 1, 2]) rfl ?_
   refine Y_move ?_
   refine X_ari rfl rfl rfl rfl rfl (by exact wrap_in (by decide) (by omega)) rfl ?_
   refine Y_assign ?_
   refine XD_end ?_
   refine K_then ?_
   refine Y_pk [6, 5, 4, 0, 1] ?_
   refine C_block ?_
   refine Y_pk [5, 6, 4, 0, 1] ?_
   refine C_loopO2 (Hin := hs) (Hin2 := h5) (.succ (.succ .zero)) (by repeat first | exact Rem.here _ | exact Rem.two | apply Rem.skip | apply Rem.over) (by repeat first | exact Rem.here _ | exact Rem.two | apply Rem.skip | apply Rem.over) (fun (j : Nat) M1 h1 z => ∃ (i : Nat) (w : List IntV) (ha hb : Hp), M1 = M ∧ z = [(5, .int .i64 (i : Int)), (6, .int .i64 (j : Int))] ∧ h1 = ha ++ hb ∧ Inv j hb ∧ i < j ∧ j ≤ l.length ∧ w.length = l.length ∧ w.take i = kept p (l.take j) ∧ w.drop j = l.drop j ∧ i = (kept p (l.take j)).length ∧ OSl 3 1 (.slice (some ⟨b, 0, none⟩) l.length c) ha (w.map (oneI .i64))) (fun j => l.length - j) (i0 + 1) (⟨i0, l, hs, h5, rfl, rfl, rfl, hin5, by omega, by omega, rfl, hk0.symm, rfl, by rw [hk0]; simp; omega, ho⟩) ?_
   rintro j M1 h1 z hm1 ⟨i, w, ha, hb, hM1, rfl, rfl, hin, hij, hj, hwl, hw1, hw2, hi9, ho1⟩
   subst hM1
   have hnw : (w.map (oneI .i64)).length = w.length := List.length_map ..
   have ho1w : OSl 3 1 (.slice (some ⟨b, 0, none⟩) (w.map (oneI .i64)).length c) ha (w.map (oneI .i64)) := by rw [hnw, hwl]; exact ho1
   rw [List.append_assoc]
   iterate 2 refine C_seq ?_
   refine C_region (l := [0, 1, 2, 3]) rfl ?_
   iterate 2 refine Y_move ?_
   refine Y_len_sl F.elem52 ?_
   refine Y_cmp ?_
   refine XD_end ?_
   refine K_then ?_
   refine C_cond rfl (fun hc2 => ?_) (fun hc2 => ?_)
   ·skip
    replace hc2 := dT hc2
    refine C_skip ?_
    refine K_then ?_
    refine C_seq ?_
    refine C_block ?_
    refine C_seq ?_
    refine C_region (l := [0, 1, 2, 3, 4]) rfl ?_
    iterate 2 refine Y_move ?_
    refine X_indexAddr rfl rfl rfl rfl F.elem52 (by rfl) (by omega) (by exact ⟨_, _, rfl⟩) rfl ?_
    refine X_load_osl rfl rfl rfl (by assumption) (by repeat first | exact Rem.here _ | exact Rem.two | apply Rem.skip | apply Rem.over) (by exact row_map (by omega)) F.lay3 rfl rfl rfl ?_
    refine Y_assign ?_
    refine XD_end ?_
    refine K_then ?_
    refine C_seq ?_
    refine C_regionW (l := [0, 1, 2, 3]) [2] rfl ?_
    iterate 2 refine Y_move ?_
    have hd8 := drop_at hwl (by omega : j < l.length) hw2
    have hcw := hc j (by omega) hb hin
    rw [← hd8] at hcw
    refine X_fhVW rfl rfl rfl rfl hok rfl rfl hcw (by repeat first | exact Rem.here _ | exact Rem.two | apply Rem.skip | apply Rem.over) (putE_some rfl) ?_
    rintro _ M1 h7 hm7 ⟨hM1, rfl, hin7⟩
    subst M1
    rw [hd8]
    refine Y_not ?_
    refine XD_end ?_
    refine K_unw ?_
    refine K_then ?_
    refine C_cond rfl (fun hc3 => ?_) (fun hc3 => ?_)
    ·simp only [Bool.not_eq_true', Bool.not_eq_false'] at hc3
     have hP := hc3
     refine C_seq ?_
     refine C_region (l := [0, 1, 2, 3, 4]) rfl ?_
     iterate 3 refine Y_move ?_
     refine X_indexAddr rfl rfl rfl rfl F.elem52 (by rfl) (by omega) (by exact ⟨_, _, rfl⟩) rfl ?_
     refine X_storeO (b := b) (j := i) rfl rfl rfl rfl (by constructor) (flat_one rfl flat_nil) F.lay3 rfl rfl ho1 (by repeat first | exact Rem.here _ | exact Rem.two | apply Rem.skip | apply Rem.over) (by omega) ?_; intro hs7 ho7
     replace ho7 : OSl 3 1 (.slice (some ⟨b, 0, none⟩) l.length c) hs7 ((w.set i l[j]).map (oneI .i64)) := by rw [List.map_set]; exact ho7.as (by simp; omega)
     refine XD_end ?_
     refine K_then ?_
     refine C_region (l := [0, 1, 2]) rfl ?_
     refine Y_move ?_
     refine X_ari rfl rfl rfl rfl rfl (by exact wrap_in (by decide) (by omega)) rfl ?_
     refine Y_assign ?_
     refine XD_end ?_
     refine K_out ?_
     refine K_then ?_
     refine C_region (l := [0, 1, 2]) rfl ?_
     refine Y_move ?_
     refine X_ari rfl rfl rfl rfl rfl (by exact wrap_in (by decide) (by omega)) rfl ?_
     refine Y_assign ?_
     refine XD_end ?_
     refine K_roundO (a' := [(5, _), (6, _)]) (j + 1) (hs7 ++ h7) (.cons (k := 5) rfl (.cons (k := 6) rfl (.cons (k := 4) rfl (.cons (k := 0) rfl (.cons (k := 1) rfl (.nil)))))) (by exact Mem.le.refl _) (fun w hw => by first | exact hw | exact hw.c) ?_ ?_
     ·have hd9 := drop_at hwl (by omega : j < l.length) hw2
      have hp9 : p l[j] = false := by first | (simpa using hP) | (rw [← hd9]; simpa using hP)
      obtain ⟨e1, e2, e3⟩ := keep_put hwl hij (by omega : j < l.length) hw1 hw2
      exact ⟨i + 1, w.set i l[j], hs7, h7, rfl, rfl, rfl, hin7, by omega, by omega, e1, by rw [e2, filt_step (by omega : j < l.length), hp9]; rfl, e3, by rw [filt_step (by omega : j < l.length), hp9]; simp; omega, by first | exact ho7 | (rw [← hd9]; exact ho7)⟩
     ·omega
    ·simp only [Bool.not_eq_true', Bool.not_eq_false'] at hc3
     have hP := hc3
     refine C_skip ?_
     refine K_out ?_
     refine K_then ?_
     refine C_region (l := [0, 1, 2]) rfl ?_
     refine Y_move ?_
     refine X_ari rfl rfl rfl rfl rfl (by exact wrap_in (by decide) (by omega)) rfl ?_
     refine Y_assign ?_
     refine XD_end ?_
     refine K_roundO (a' := [(5, _), (6, _)]) (j + 1) (ha ++ h7) (.cons (k := 5) rfl (.cons (k := 6) rfl (.cons (k := 4) rfl (.cons (k := 0) rfl (.cons (k := 1) rfl (.nil)))))) (by exact Mem.le.refl _) (fun w hw => by first | exact hw | exact hw.c) ?_ ?_
     ·have hd9 := drop_at hwl (by omega : j < l.length) hw2
      have hp9 : p l[j] = true := by first | (simpa using hP) | (rw [← hd9]; simpa using hP)
      exact ⟨i, w, ha, h7, rfl, rfl, rfl, hin7, by omega, by omega, hwl, by rw [hw1, filt_step (by omega : j < l.length), hp9]; rfl, by have := congrArg (List.drop 1) hw2; simpa [List.drop_drop] using this, by rw [filt_step (by omega : j < l.length), hp9]; simpa using hi9, ho1⟩
     ·omega
   ·skip
    replace hc2 := dF hc2
    refine C_exit ?_
    iterate 2 refine K_exit ?_
    refine K_hit ?_
    refine K_then ?_
    refine Y_pk [5, 4, 0] ?_
    refine C_seq ?_
    refine C_region (l := [0, 1, 2, 3]) rfl ?_
    iterate 2 refine Y_move ?_
    obtain rfl : j = l.length := by omega
    rw [List.take_length] at hw1 hi9
    have hcc := ho1.caps
    refine X_slice rfl rfl rfl (.some (k := i) rfl rfl) .none .none F.elem52 (by simp) (by simp only [Option.getD_none, Option.getD_some]; omega) (by simp only [Option.getD_none, Option.getD_some]; omega) (by simp) (show pieceV (some ⟨b, 0, none⟩) 1 i l.length c = .slice (some ⟨b, 0 + i * 1, none⟩) (l.length - i) (c - i) from pieceV_in (by omega)) rfl ?_
    have hcut : OSl 3 1 (.slice (some ⟨b, 0, none⟩) ((kept p l).map (oneI .i64)).length c) ha ((kept p l).map (oneI .i64)) := (by have h9 := OSl.cut (k := i) (ho1.as rfl) (by omega); rw [← List.map_take, hw1] at h9; exact h9.as rfl)
    have hkl : ((kept p l).map (oneI .i64)).length = i := by simp; omega
    refine X_clear_own rfl rfl rfl rfl rfl F.elem52 F.zero3 rfl (flat_all (flat_one rfl flat_nil)) hcut (by repeat first | exact Rem.here _ | exact Rem.two | apply Rem.skip | apply Rem.over) (by omega) (by omega) putE_none ?_; intro hs8 ho8
    refine XD_end ?_
    refine K_then ?_
    refine Y_pk [5, 4, 0] ?_
    refine C_seq ?_
    refine C_region (l := [0, 1, 2, 3]) rfl ?_
    iterate 2 refine Y_move ?_
    refine X_slice rfl rfl rfl .none (.some (k := i) rfl rfl) .none F.elem52 (by simp) (by simp only [Option.getD_none, Option.getD_some]; omega) (by simp only [Option.getD_none, Option.getD_some]; omega) (by simp) (show pieceV (some ⟨b, 0, none⟩) 1 0 i c = .slice (some ⟨b, 0, none⟩) i c from pieceV_zero) rfl ?_
    refine Y_assign ?_
    refine XD_end ?_
    refine K_then ?_
    refine Y_pk [4] ?_
    refine C_ret ?_
    refine K_end (.inr rfl) (.tmp rfl .nil) (fun w hw => ?_)
    exact ⟨_, _, hs8 ++ hb, rfl, Mem.le.refl _, hw.c, rfl, hs8, hb, rfl, ho8.as (by omega), hin⟩

theorem DeleteII_ok (M : Mem) (hs h0 : Hp) (a : Option Addr) (c : Nat) (l : List IntV) (ho : OSl 3 1 (.slice a l.length c) hs (l.map (oneI .i64))) (bl : l.length ≤ 1000000) (gf : FuncId) (caps : List Value) (p : IntV → Bool) (Inv : Nat → Hp → Prop) (hok : okFn Tryz.prog gf = true) (hc : ∀ j (hj : j < l.length) h, Inv j h → Fh Tryz.prog gf ([.int .i64 l[j]] ++ caps) M h (fun M' v Hout => M' = M ∧ v = .bool (p l[j]) ∧ Inv (j + 1) Hout)) (hi : Inv 0 h0) : Fh Tryz.prog 101 [.slice a l.length c, .func (.func gf) #[] caps.toArray] M (hs ++ h0) (fun M' v Hout => M' = M ∧ ∃ hs' h', Hout = hs' ++ h' ∧ OSl 3 1 v hs' ((kept p l).map (oneI .i64)) ∧ Inv l.length h') := by
  by_cases h : idxF p l = -1
  ·exact DeleteII_no M hs h0 a c l ho bl gf caps p Inv hok hc hi h
  ·obtain ⟨i0, h1, h2, h3, h4⟩ := idxF_some h
   obtain ⟨b, rfl⟩ := ho.someB (by omega)
   exact DeleteII_yes M hs h0 b c l ho bl gf caps p Inv hok hc hi i0 h1 h2 h3

end Go.Proofs.YtpkeilhilpogiaaGreat
/-
  What waits: some of it gone.
-/
set_option linter.unusedSimpArgs false
set_option linter.unusedVariables false
set_option linter.unnecessarySimpa false
set_option maxRecDepth 8000
set_option maxHeartbeats 1000000
namespace Go.Proofs.YtpkeilhilpogiaaGreat
open Go.Esp
theorem F.ok100 : okFn Tryz.prog 100 = true := by kernel_rfl

theorem IndexIW (M : Mem) (hs h0 : Hp) (a : Option Addr) (c : Nat) (l : List WaitV) (ho : OSl 54 28 (.slice a l.length c) hs (l.map WaitV.segs)) (bl : l.length ≤ 1000000) (gf : FuncId) (caps : List Value) (p : WaitV → Bool) (Inv : Nat → Hp → Prop) (hok : okFn Tryz.prog gf = true) (hc : ∀ j (hj : j < l.length) h, Inv j h → Fh Tryz.prog gf ([l[j].enc] ++ caps) M h (fun M' v Hout => M' = M ∧ v = .bool (p l[j]) ∧ Inv (j + 1) Hout)) (hi : Inv 0 h0) : Fh Tryz.prog 100 [.slice a l.length c, .func (.func gf) #[] caps.toArray] M (hs ++ h0) (fun M' v Hout => M' = M ∧ v = .int .i64 (idxF p l) ∧ ∃ h', Hout = hs ++ h' ∧ Inv (if idxF p l = -1 then l.length else (idxF p l).toNat + 1) h') := by
  have nl : (l.map WaitV.segs).length = l.length := List.length_map ..
  have ho9 : OSl 54 28 (.slice a (l.map WaitV.segs).length c) hs (l.map WaitV.segs) := by rw [nl]; exact ho
  refine fh_enterF (fun H => hs ++ (h0 ++ H)) (fun _ => List.append_assoc _ _ _) Tryz.func100 rfl Tryz.ntmps100 rfl ?_; intro H
  refine C_seq ?_
  refine C_region (l := [0]) rfl ?_
  refine Y_assign ?_
  refine XD_end ?_
  refine K_then ?_
  iterate 2 refine C_seq ?_
  refine C_region (l := [0, 1, 2]) rfl ?_
  refine Y_move ?_
  refine Y_len_sl F.elem24 ?_
  refine Y_move ?_
  refine XD_end ?_
  refine K_then ?_
  refine Y_pk [8, 7, 4, 0, 1] ?_
  refine C_block ?_
  refine Y_pk [8, 7, 4, 0, 1] ?_
  refine C_loopO (Hin := h0) (.succ .zero) (by repeat first | exact Rem.here _ | exact Rem.two | apply Rem.skip | apply Rem.over) (fun (k : Nat) M1 h1 z => M1 = M ∧ z = [(8, .int .i64 (k : Int))] ∧ k ≤ l.length ∧ Inv k h1 ∧ ∀ j (h : j < k) (h2 : j < l.length), p l[j] = false) (fun k => l.length - k) (0) (⟨rfl, rfl, by omega, hi, fun j hj => by omega⟩) ?_
  rintro k M1 h1 z hm1 ⟨hM1, rfl, hk, hin, hI⟩
  subst M1
  refine C_seq ?_
  refine C_region (l := [0]) rfl ?_
  refine Y_cmp ?_
  refine XD_end ?_
  refine K_then ?_
  refine C_seq ?_
  refine C_cond rfl (fun hc1 => ?_) (fun hc1 => ?_)
  ·skip
   replace hc1 := dT hc1
   refine C_skip ?_
   refine K_then ?_
   refine C_seq ?_
   refine C_block ?_
   refine C_seq ?_
   refine C_region (l := [0, 1]) rfl ?_
   refine Y_move ?_
   refine Y_assign ?_
   refine XD_end ?_
   refine K_then ?_
   refine C_seq ?_
   refine C_regionW (l := [0, 1, 2, 3, 4, 5]) [5] rfl ?_
   iterate 3 refine Y_move ?_
   refine X_indexAddr rfl rfl rfl rfl F.elem24 (by rfl) (by omega) (by exact OSl.plain (by assumption) (by (simp; omega))) rfl ?_
   refine X_load_osl rfl rfl rfl (by assumption) (by repeat first | exact Rem.here _ | exact Rem.two | apply Rem.skip | apply Rem.over) (by exact row_map (by omega)) F.lay54 rfl rfl rfl ?_
   refine X_fhVW rfl rfl rfl rfl hok rfl rfl (hc k (by omega) h1 hin) (by repeat first | exact Rem.here _ | exact Rem.two | apply Rem.skip | apply Rem.over) (putE_some rfl) ?_
   rintro _ M1 h7 hm7 ⟨hM1, rfl, hin7⟩
   subst M1
   refine XD_end ?_
   refine K_unw ?_
   refine K_then ?_
   refine C_cond rfl (fun hc2 => ?_) (fun hc2 => ?_)
   ·skip
    have hP := hc2
    refine C_seq ?_
    refine C_region (l := [0, 1]) rfl ?_
    refine Y_move ?_
    refine Y_assign ?_
    refine XD_end ?_
    refine K_then ?_
    refine C_ret ?_
    refine K_retB ?_
    iterate 2 refine K_ret ?_
    refine K_retB ?_
    refine K_ret ?_
    refine K_end (.inr rfl) (.tmp rfl .nil) (fun w hw => ?_)
    have e9 : idxF p l = ((k : Nat) : Int) := idxF_at (by omega) (fun j hj => hI j hj _) hP
    refine ⟨_, M, hs ++ h7, rfl, Mem.le.refl M, hw.c, rfl, congrArg (Value.int .i64) e9.symm, h7, rfl, ?_⟩
    rw [e9, if_neg (by omega), Int.toNat_natCast]
    exact hin7
   ·skip
    have hP := hc2
    refine C_skip ?_
    refine K_out ?_
    refine K_then ?_
    refine C_region (l := [0, 1]) rfl ?_
    refine X_ari rfl rfl rfl rfl rfl (by exact wrap_in (by decide) (by omega)) rfl ?_
    refine Y_move ?_
    refine XD_end ?_
    refine K_roundO (a' := [(8, _)]) (k + 1) (h7) (.cons (k := 8) rfl (.cons (k := 7) rfl (.cons (k := 4) rfl (.cons (k := 0) rfl (.cons (k := 1) rfl (.nil)))))) (by exact Mem.le.refl _) (fun w hw => by first | exact hw | exact hw.c) ?_ ?_
    ·refine ⟨rfl, rfl, by omega, hin7, fun j hj h2 => ?_⟩
     rcases Nat.lt_or_ge j k with h9 | h9
     ·exact hI j h9 h2
     ·obtain rfl : j = k := by omega
      exact hP
    ·omega
  ·skip
   replace hc1 := dF hc1
   refine C_exit ?_
   iterate 2 refine K_exit ?_
   refine K_hit ?_
   refine K_then ?_
   refine Y_pk [4] ?_
   refine C_seq ?_
   refine C_region (l := [0]) rfl ?_
   refine Y_assign ?_
   refine XD_end ?_
   refine K_then ?_
   refine C_ret ?_
   refine K_end (.inr rfl) (.tmp rfl .nil) (fun w hw => ?_)
   obtain rfl : k = l.length := by omega
   have e9 : idxF p l = -1 := idxF_none (fun j hj => hI j (by omega) hj)
   refine ⟨_, M, hs ++ h1, rfl, Mem.le.refl M, hw.c, rfl, congrArg (Value.int .i64) e9.symm, h1, rfl, ?_⟩
   rw [if_pos e9]
   exact hin

theorem DeleteIW_no (M : Mem) (hs h0 : Hp) (a : Option Addr) (c : Nat) (l : List WaitV) (ho : OSl 54 28 (.slice a l.length c) hs (l.map WaitV.segs)) (bl : l.length ≤ 1000000) (gf : FuncId) (caps : List Value) (p : WaitV → Bool) (Inv : Nat → Hp → Prop) (hok : okFn Tryz.prog gf = true) (hc : ∀ j (hj : j < l.length) h, Inv j h → Fh Tryz.prog gf ([l[j].enc] ++ caps) M h (fun M' v Hout => M' = M ∧ v = .bool (p l[j]) ∧ Inv (j + 1) Hout)) (hi : Inv 0 h0) (h : idxF p l = -1) : Fh Tryz.prog 62 [.slice a l.length c, .func (.func gf) #[] caps.toArray] M (hs ++ h0) (fun M' v Hout => M' = M ∧ ∃ hs' h', Hout = hs' ++ h' ∧ OSl 54 28 v hs' ((kept p l).map WaitV.segs) ∧ Inv l.length h') := by
  refine fh_enterF (fun H => hs ++ (h0 ++ H)) (fun _ => List.append_assoc _ _ _) Tryz.func62 rfl Tryz.ntmps62 rfl ?_; intro H
  refine C_seq ?_
  refine C_region (l := [0]) rfl ?_
  refine Y_assign ?_
  refine XD_end ?_
  refine K_then ?_
  refine C_seq ?_
  refine C_regionW (l := [0, 1, 2, 3]) [2] rfl ?_
  iterate 2 refine Y_move ?_
  refine X_fhW rfl rfl rfl F.ok100 rfl (IndexIW M hs h0 a c l ho bl gf caps p Inv hok hc hi) (by repeat first | exact Rem.here _ | exact Rem.two | apply Rem.skip | apply Rem.over) (putE_some rfl) ?_
  rintro _ M1 _ hm1 ⟨hM1, rfl, h5, rfl, hin5⟩; subst M1
  rw [h]
  rw [if_pos h] at hin5
  simp only [List.append_assoc]
  refine Y_assign ?_
  refine XD_end ?_
  refine K_unw ?_
  refine K_then ?_
  refine Y_pk [5, 4, 0, 1] ?_
  iterate 2 refine C_seq ?_
  refine C_region (l := [0, 1]) rfl ?_
  refine Y_move ?_
  refine Y_cmp ?_
  refine XD_end ?_
  refine K_then ?_
  refine Y_pk [12, 5, 4, 0, 1] ?_
  refine C_cond rfl (fun hc1 => ?_) (fun hc1 => ?_)
  ·replace hc1 := dT hc1
   simp only [AnswerV.eta, MarkV.eta, CellV.eta, HeldV.eta, WaitV.eta, ServerV.eta, PeerV.eta, OpV.eta, ParcelV.eta, PostV.eta, WorkerV.eta] at hc1
   refine C_seq ?_
   refine C_region (l := [0, 1]) rfl ?_
   refine Y_move ?_
   refine Y_assign ?_
   refine XD_end ?_
   refine K_then ?_
   refine Y_pk [4, 5, 0, 1] ?_
   refine C_ret ?_
   refine K_ret ?_
   refine K_end (.inr rfl) (.tmp rfl .nil) (fun w hw => ?_)
   exact ⟨_, M, hs ++ h5, rfl, Mem.le.refl M, hw.c, rfl, hs, h5, rfl, by rw [kept_none h]; exact ho, hin5⟩
  ·replace hc1 := dF hc1
   simp only [AnswerV.eta, MarkV.eta, CellV.eta, HeldV.eta, WaitV.eta, ServerV.eta, PeerV.eta, OpV.eta, ParcelV.eta, PostV.eta, WorkerV.eta] at hc1
   (exfalso; simp [eqX] at hc1; done)

theorem DeleteIW_yes (M : Mem) (hs h0 : Hp) (b : Nat) (c : Nat) (l : List WaitV) (ho : OSl 54 28 (.slice (some ⟨b, 0, none⟩) l.length c) hs (l.map WaitV.segs)) (bl : l.length ≤ 1000000) (gf : FuncId) (caps : List Value) (p : WaitV → Bool) (Inv : Nat → Hp → Prop) (hok : okFn Tryz.prog gf = true) (hc : ∀ j (hj : j < l.length) h, Inv j h → Fh Tryz.prog gf ([l[j].enc] ++ caps) M h (fun M' v Hout => M' = M ∧ v = .bool (p l[j]) ∧ Inv (j + 1) Hout)) (hi : Inv 0 h0) (i0 : Nat) (h : idxF p l = (i0 : Nat)) (hi0 : i0 < l.length) (hk0 : kept p (l.take (i0 + 1)) = l.take i0) : Fh Tryz.prog 62 [.slice (some ⟨b, 0, none⟩) l.length c, .func (.func gf) #[] caps.toArray] M (hs ++ h0) (fun M' v Hout => M' = M ∧ ∃ hs' h', Hout = hs' ++ h' ∧ OSl 54 28 v hs' ((kept p l).map WaitV.segs) ∧ Inv l.length h') := by
  refine fh_enterF (fun H => hs ++ (h0 ++ H)) (fun _ => List.append_assoc _ _ _) Tryz.func62 rfl Tryz.ntmps62 rfl ?_; intro H
  refine C_seq ?_
  refine C_region (l := [0]) rfl ?_
  refine Y_assign ?_
  refine XD_end ?_
  refine K_then ?_
  refine C_seq ?_
  refine C_regionW (l := [0, 1, 2, 3]) [2] rfl ?_
  iterate 2 refine Y_move ?_
  refine X_fhW rfl rfl rfl F.ok100 rfl (IndexIW M hs h0 (some ⟨b, 0, none⟩) c l ho bl gf caps p Inv hok hc hi) (by repeat first | exact Rem.here _ | exact Rem.two | apply Rem.skip | apply Rem.over) (putE_some rfl) ?_
  rintro _ M1 _ hm1 ⟨hM1, rfl, h5, rfl, hin5⟩; subst M1
  rw [h]
  rw [h] at hin5
  rw [if_neg (by omega), Int.toNat_natCast] at hin5
  simp only [List.append_assoc]
  refine Y_assign ?_
  refine XD_end ?_
  refine K_unw ?_
  refine K_then ?_
  refine Y_pk [5, 4, 0, 1] ?_
  iterate 2 refine C_seq ?_
  refine C_region (l := [0, 1]) rfl ?_
  refine Y_move ?_
  refine Y_cmp ?_
  refine XD_end ?_
  refine K_then ?_
  refine Y_pk [12, 5, 4, 0, 1] ?_
  refine C_cond rfl (fun hc1 => ?_) (fun hc1 => ?_)
  ·skip
   replace hc1 := dT hc1
   (exfalso; omega)
  ·skip
   replace hc1 := dF hc1
   refine C_skip ?_
   refine K_then ?_
   refine Y_pk [5, 4, 0, 1] ?_
   iterate 2 refine C_seq ?_
   refine C_region (l := [0, 1, 2]) rfl ?_
   refine Y_move ?_
   refine X_ari rfl rfl rfl rfl rfl (by exact wrap_in (by decide) (by omega)) rfl ?_
   refine Y_assign ?_
   refine XD_end ?_
   refine K_then ?_
   refine Y_pk [6, 5, 4, 0, 1] ?_
   refine C_block ?_
   refine Y_pk [5, 6, 4, 0, 1] ?_
   refine C_loopO2 (Hin := hs) (Hin2 := h5) (.succ (.succ .zero)) (by repeat first | exact Rem.here _ | exact Rem.two | apply Rem.skip | apply Rem.over) (by repeat first | exact Rem.here _ | exact Rem.two | apply Rem.skip | apply Rem.over) (fun (j : Nat) M1 h1 z => ∃ (i : Nat) (w : List WaitV) (ha hb : Hp), M1 = M ∧ z = [(5, .int .i64 (i : Int)), (6, .int .i64 (j : Int))] ∧ h1 = ha ++ hb ∧ Inv j hb ∧ i < j ∧ j ≤ l.length ∧ w.length = l.length ∧ w.take i = kept p (l.take j) ∧ w.drop j = l.drop j ∧ i = (kept p (l.take j)).length ∧ OSl 54 28 (.slice (some ⟨b, 0, none⟩) l.length c) ha (w.map WaitV.segs)) (fun j => l.length - j) (i0 + 1) (⟨i0, l, hs, h5, rfl, rfl, rfl, hin5, by omega, by omega, rfl, hk0.symm, rfl, by rw [hk0]; simp; omega, ho⟩) ?_
   rintro j M1 h1 z hm1 ⟨i, w, ha, hb, hM1, rfl, rfl, hin, hij, hj, hwl, hw1, hw2, hi9, ho1⟩
   subst hM1
   have hnw : (w.map WaitV.segs).length = w.length := List.length_map ..
   have ho1w : OSl 54 28 (.slice (some ⟨b, 0, none⟩) (w.map WaitV.segs).length c) ha (w.map WaitV.segs) := by rw [hnw, hwl]; exact ho1
   rw [List.append_assoc]
   iterate 2 refine C_seq ?_
   refine C_region (l := [0, 1, 2, 3]) rfl ?_
   iterate 2 refine Y_move ?_
   refine Y_len_sl F.elem24 ?_
   refine Y_cmp ?_
   refine XD_end ?_
   refine K_then ?_
   refine C_cond rfl (fun hc2 => ?_) (fun hc2 => ?_)
   ·skip
    replace hc2 := dT hc2
    refine C_skip ?_
    refine K_then ?_
    refine C_seq ?_
    refine C_block ?_
    refine C_seq ?_
    refine C_region (l := [0, 1, 2, 3, 4, 5]) rfl ?_
    iterate 2 refine Y_move ?_
    refine X_indexAddr rfl rfl rfl rfl F.elem24 (by rfl) (by omega) (by exact ⟨_, _, rfl⟩) rfl ?_
    refine X_load_osl rfl rfl rfl (by assumption) (by repeat first | exact Rem.here _ | exact Rem.two | apply Rem.skip | apply Rem.over) (by exact row_map (by omega)) F.lay54 rfl rfl rfl ?_
    refine Y_alloc F.zero54 ?_; intro b3
    refine Y_store F.lay54 ?_
    refine XD_end ?_
    refine K_then ?_
    refine C_seq ?_
    refine C_regionW (l := [0, 1, 2, 3]) [2] rfl ?_
    refine Y_move ?_
    refine Y_load F.lay54 ?_
    have hd8 := drop_at hwl (by omega : j < l.length) hw2
    have hcw := hc j (by omega) hb hin
    rw [← hd8] at hcw
    refine X_fhVW rfl rfl rfl rfl hok rfl rfl hcw (by repeat first | exact Rem.here _ | exact Rem.two | apply Rem.skip | apply Rem.over) (putE_some rfl) ?_
    rintro _ M1 h7 hm7 ⟨hM1, rfl, hin7⟩
    subst M1
    refine Y_not ?_
    refine XD_end ?_
    refine K_unw ?_
    refine K_then ?_
    refine C_cond rfl (fun hc4 => ?_) (fun hc4 => ?_)
    ·simp only [Bool.not_eq_true', Bool.not_eq_false'] at hc4
     have hP := hc4
     refine C_seq ?_
     refine C_region (l := [0, 1, 2, 3, 4]) rfl ?_
     iterate 2 refine Y_move ?_
     refine Y_load F.lay54 ?_
     refine X_indexAddr rfl rfl rfl rfl F.elem24 (by rfl) (by omega) (by exact ⟨_, _, rfl⟩) rfl ?_
     refine X_storeO (b := b) (j := i) rfl rfl rfl rfl (by constructor) (WaitV.flat _) F.lay54 rfl rfl ho1 (by repeat first | exact Rem.here _ | exact Rem.two | apply Rem.skip | apply Rem.over) (by omega) ?_; intro hs7 ho7
     replace ho7 : OSl 54 28 (.slice (some ⟨b, 0, none⟩) l.length c) hs7 ((w.set i w[j]).map WaitV.segs) := by rw [List.map_set]; exact ho7.as (by simp; omega)
     refine XD_end ?_
     refine K_then ?_
     refine C_region (l := [0, 1, 2]) rfl ?_
     refine Y_move ?_
     refine X_ari rfl rfl rfl rfl rfl (by exact wrap_in (by decide) (by omega)) rfl ?_
     refine Y_assign ?_
     refine XD_end ?_
     refine K_out ?_
     refine K_then ?_
     refine C_region (l := [0, 1, 2]) rfl ?_
     refine Y_move ?_
     refine X_ari rfl rfl rfl rfl rfl (by exact wrap_in (by decide) (by omega)) rfl ?_
     refine Y_assign ?_
     refine XD_end ?_
     refine K_roundO (a' := [(5, _), (6, _)]) (j + 1) (hs7 ++ h7) (.cons (k := 5) rfl (.cons (k := 6) rfl (.cons (k := 4) rfl (.cons (k := 0) rfl (.cons (k := 1) rfl (.nil)))))) (by exact Mem.le.refl _) (fun w hw => by first | exact hw | exact hw.c) ?_ ?_
     ·have hd9 := drop_at hwl (by omega : j < l.length) hw2
      have hp9 : p l[j] = false := by first | (simpa using hP) | (rw [← hd9]; simpa using hP)
      obtain ⟨e1, e2, e3⟩ := keep_put hwl hij (by omega : j < l.length) hw1 hw2
      exact ⟨i + 1, w.set i l[j], hs7, h7, rfl, rfl, rfl, hin7, by omega, by omega, e1, by rw [e2, filt_step (by omega : j < l.length), hp9]; rfl, e3, by rw [filt_step (by omega : j < l.length), hp9]; simp; omega, by first | exact ho7 | (rw [← hd9]; exact ho7)⟩
     ·omega
    ·simp only [Bool.not_eq_true', Bool.not_eq_false'] at hc4
     have hP := hc4
     refine C_skip ?_
     refine K_out ?_
     refine K_then ?_
     refine C_region (l := [0, 1, 2]) rfl ?_
     refine Y_move ?_
     refine X_ari rfl rfl rfl rfl rfl (by exact wrap_in (by decide) (by omega)) rfl ?_
     refine Y_assign ?_
     refine XD_end ?_
     refine K_roundO (a' := [(5, _), (6, _)]) (j + 1) (ha ++ h7) (.cons (k := 5) rfl (.cons (k := 6) rfl (.cons (k := 4) rfl (.cons (k := 0) rfl (.cons (k := 1) rfl (.nil)))))) (by exact Mem.le.refl _) (fun w hw => by first | exact hw | exact hw.c) ?_ ?_
     ·have hd9 := drop_at hwl (by omega : j < l.length) hw2
      have hp9 : p l[j] = true := by first | (simpa using hP) | (rw [← hd9]; simpa using hP)
      exact ⟨i, w, ha, h7, rfl, rfl, rfl, hin7, by omega, by omega, hwl, by rw [hw1, filt_step (by omega : j < l.length), hp9]; rfl, by have := congrArg (List.drop 1) hw2; simpa [List.drop_drop] using this, by rw [filt_step (by omega : j < l.length), hp9]; simpa using hi9, ho1⟩
     ·omega
   ·skip
    replace hc2 := dF hc2
    refine C_exit ?_
    iterate 2 refine K_exit ?_
    refine K_hit ?_
    refine K_then ?_
    refine Y_pk [5, 4, 0] ?_
    refine C_seq ?_
    refine C_region (l := [0, 1, 2, 3]) rfl ?_
    iterate 2 refine Y_move ?_
    obtain rfl : j = l.length := by omega
    rw [List.take_length] at hw1 hi9
    have hcc := ho1.caps
    refine X_slice rfl rfl rfl (.some (k := i) rfl rfl) .none .none F.elem24 (by simp) (by simp only [Option.getD_none, Option.getD_some]; omega) (by simp only [Option.getD_none, Option.getD_some]; omega) (by simp) (show pieceV (some ⟨b, 0, none⟩) 28 i l.length c = .slice (some ⟨b, 0 + i * 28, none⟩) (l.length - i) (c - i) from pieceV_in (by omega)) rfl ?_
    have hcut : OSl 54 28 (.slice (some ⟨b, 0, none⟩) ((kept p l).map WaitV.segs).length c) ha ((kept p l).map WaitV.segs) := (by have h9 := OSl.cut (k := i) (ho1.as rfl) (by omega); rw [← List.map_take, hw1] at h9; exact h9.as rfl)
    have hkl : ((kept p l).map WaitV.segs).length = i := by simp; omega
    refine X_clear_own rfl rfl rfl rfl rfl F.elem24 F.zero54 (agg_size rfl) (flat_all (WaitV.flat WaitV.zero)) hcut (by repeat first | exact Rem.here _ | exact Rem.two | apply Rem.skip | apply Rem.over) (by omega) (by omega) putE_none ?_; intro hs8 ho8
    refine XD_end ?_
    refine K_then ?_
    refine Y_pk [5, 4, 0] ?_
    refine C_seq ?_
    refine C_region (l := [0, 1, 2, 3]) rfl ?_
    iterate 2 refine Y_move ?_
    refine X_slice rfl rfl rfl .none (.some (k := i) rfl rfl) .none F.elem24 (by simp) (by simp only [Option.getD_none, Option.getD_some]; omega) (by simp only [Option.getD_none, Option.getD_some]; omega) (by simp) (show pieceV (some ⟨b, 0, none⟩) 28 0 i c = .slice (some ⟨b, 0, none⟩) i c from pieceV_zero) rfl ?_
    refine Y_assign ?_
    refine XD_end ?_
    refine K_then ?_
    refine Y_pk [4] ?_
    refine C_ret ?_
    refine K_end (.inr rfl) (.tmp rfl .nil) (fun w hw => ?_)
    exact ⟨_, _, hs8 ++ hb, rfl, Mem.le.refl _, hw.c, rfl, hs8, hb, rfl, ho8.as (by omega), hin⟩

theorem DeleteIW_ok (M : Mem) (hs h0 : Hp) (a : Option Addr) (c : Nat) (l : List WaitV) (ho : OSl 54 28 (.slice a l.length c) hs (l.map WaitV.segs)) (bl : l.length ≤ 1000000) (gf : FuncId) (caps : List Value) (p : WaitV → Bool) (Inv : Nat → Hp → Prop) (hok : okFn Tryz.prog gf = true) (hc : ∀ j (hj : j < l.length) h, Inv j h → Fh Tryz.prog gf ([l[j].enc] ++ caps) M h (fun M' v Hout => M' = M ∧ v = .bool (p l[j]) ∧ Inv (j + 1) Hout)) (hi : Inv 0 h0) : Fh Tryz.prog 62 [.slice a l.length c, .func (.func gf) #[] caps.toArray] M (hs ++ h0) (fun M' v Hout => M' = M ∧ ∃ hs' h', Hout = hs' ++ h' ∧ OSl 54 28 v hs' ((kept p l).map WaitV.segs) ∧ Inv l.length h') := by
  by_cases h : idxF p l = -1
  ·exact DeleteIW_no M hs h0 a c l ho bl gf caps p Inv hok hc hi h
  ·obtain ⟨i0, h1, h2, h3, h4⟩ := idxF_some h
   obtain ⟨b, rfl⟩ := ho.someB (by omega)
   exact DeleteIW_yes M hs h0 b c l ho bl gf caps p Inv hok hc hi i0 h1 h2 h3

end Go.Proofs.YtpkeilhilpogiaaGreat
/-
  Numbers without one; what is done.
-/
set_option linter.unusedSimpArgs false
set_option linter.unusedVariables false
set_option linter.unnecessarySimpa false
set_option maxRecDepth 8000
set_option maxHeartbeats 1000000
namespace Go.Proofs.YtpkeilhilpogiaaGreat
open Go.Esp
theorem F.lay65 : lay Tryz.prog 65 = some (false, 1) := by kernel_rfl
theorem F.ok101 : okFn Tryz.prog 101 = true := by kernel_rfl
theorem F.ok102 : okFn Tryz.prog 102 = true := by kernel_rfl
theorem F.ok103 : okFn Tryz.prog 103 = true := by kernel_rfl
theorem F.ok54 : okFn Tryz.prog 54 = true := by kernel_rfl
theorem F.ok64 : okFn Tryz.prog 64 = true := by kernel_rfl
theorem F.ok65 : okFn Tryz.prog 65 = true := by kernel_rfl

theorem isn_ok (M : Mem) (b : Nat) (n x : Int) : Fo Tryz.prog 103 ([.int .i64 x] ++ [.pointer (some ⟨b, 0, none⟩)]) M [(b, rowO [.one (.int .i64 n)] 3)] (fun M' v => M' = M ∧ v = .bool (decide (x = n))) := by
  refine fo_enter Tryz.func103 rfl Tryz.ntmps103 rfl ?_; intro H
  refine C_seq ?_
  refine C_region (l := [0]) rfl ?_
  refine Y_assign ?_
  refine XD_end ?_
  refine K_then ?_
  refine C_seq ?_
  refine C_region (l := [0, 1, 2, 3]) rfl ?_
  refine Y_move ?_
  refine Y_load F.lay3 ?_
  refine Y_cmp ?_
  refine Y_assign ?_
  refine XD_end ?_
  refine K_then ?_
  refine Y_pk [3] ?_
  refine C_ret ?_
  refine K_end (.inr rfl) (.tmp rfl .nil) (fun w hw => ?_)
  refine ⟨_, M, rfl, Mem.le.refl M, hw.c, rfl, ?_⟩
  clear hw
  rfl

theorem without_ok (M : Mem) (l_a : Option Addr) (l_c : Nat) (l_l : List Int) (k_l : SlK M (oneI .i64) 1 ⟨l_a, l_c, l_l⟩) (hb : l_l.length ≤ 1000) (n : Int) : Fh Tryz.prog 65 [.slice l_a l_l.length l_c, .int .i64 n] M [] (fun M' v Hout => M' = M ∧ ∃ a c, v = .slice a (l_l.filter (notI n)).length c ∧ OSl 3 1 v Hout ((l_l.filter (notI n)).map (oneI .i64))) := by
  refine fh_enter Tryz.func65 rfl Tryz.ntmps65 rfl ?_; intro H
  refine C_seq ?_
  refine C_region (l := [0, 1]) rfl ?_
  refine Y_box ?_; intro b1
  refine Y_assign ?_
  refine XD_end ?_
  refine K_then ?_
  refine Y_pk [4, 3, 0] ?_
  refine C_seq ?_
  refine C_region (l := [0, 1, 2, 3, 4]) rfl ?_
  refine Y_move ?_
  refine X_fhR rfl rfl F.ok102 rfl (CloneI_ok M l_a l_c l_l k_l (by omega)) (by repeat first | exact Rem.here _ | exact Rem.two | apply Rem.skip | apply Rem.over) (fun _ _ _ hm hw => (hw.lower (by exact hm)).c) (putE_some rfl) ?_
  rintro v0 M1 hs0 hm1 ⟨hM1, ho0⟩; subst M1
  obtain ⟨ad0, cp0, rfl⟩ := ho0.valL
  refine X_makeFunc rfl rfl rfl rfl rfl ?_
  refine X_fhR2 rfl rfl F.ok101 rfl (DeleteII_ok M hs0 [(b1, rowO [.one (.int .i64 n)] 3)] ad0 cp0 l_l ho0 (by omega) 103 [.pointer (some ⟨b1, 0, none⟩)] (fun x => decide (x = n)) (fun _ h => h = [(b1, rowO [.one (.int .i64 n)] 3)]) F.ok103 (fun j hj h hh => by
   subst hh
   exact fh_weak (fh_of_fo (isn_ok M b1 n l_l[j])) fun M9 v9 Ho9 ⟨⟨g1, g2⟩, g3⟩ => ⟨g1, g2, g3⟩) rfl) (by repeat first | exact Rem.here _ | exact Rem.two | apply Rem.skip | apply Rem.over) (by repeat first | exact Rem.here _ | exact Rem.two | apply Rem.skip | apply Rem.over) (by rintro v M9 _ w hm ⟨rfl, hs9, h9, rfl, _, rfl⟩ hw; exact hw.c) (putE_some rfl) ?_
  rintro v9 M1 _ hm1 ⟨hM1, hs9, h9, rfl, ho9, rfl⟩; subst M1
  rw [kept_not] at ho9
  obtain ⟨ad9, cp9, rfl⟩ := ho9.valL
  simp only [List.append_assoc, List.cons_append, List.nil_append]
  refine Y_assign ?_
  refine XD_end ?_
  refine K_then ?_
  refine Y_pk [4] ?_
  refine C_ret ?_
  refine K_end (.inr rfl) (.tmp rfl .nil) (fun w hw => ?_)
  exact ⟨_, M, hs9, rfl, Mem.le.refl M, hw.c, rfl, ad9, cp9, rfl, ho9⟩

theorem done_ok (M : Mem) (bw : Nat) (s_addr s_epoch s_serial r : Int) (s_store_a s_waits_a l_a o_a : Option Addr) (s_store_c s_waits_c l_c o_c : Nat) (s_store_l : List HeldV) (s_waits_l : List WaitV) (l_l : List PeerV) (o_l : List PostV) (ho : Hp) (hO : OSl 51 37 (.slice o_a o_l.length o_c) ho (o_l.map PostV.segs)) (hL : o_l.length ≤ 80000) (x : WaitV) (k_x : SlK M (oneI .i64) 1 x.need) (hb : x.need.l.length ≤ 1000) (hcl : 0 ≤ x.client ∧ x.client ≤ 63) (frm : Int) : Fh Tryz.prog 64 [.pointer (some ⟨bw, 0, none⟩), x.enc, .int .i64 frm] M ((bw, rowO (WorkerV.segs ⟨⟨s_addr, s_epoch, ⟨s_store_a, s_store_c, s_store_l⟩, ⟨s_waits_a, s_waits_c, s_waits_l⟩, s_serial⟩, ⟨l_a, l_c, l_l⟩, r, ⟨o_a, o_c, o_l⟩⟩) 67) :: ho) (fun M' v Hout => M' = M ∧ v = .bool (decide (lessN x.pl frm = [])) ∧ ∃ (o9 : Sl PostV) (ho9 : Hp), Hout = (bw, rowO (WorkerV.segs ⟨⟨s_addr, s_epoch, ⟨s_store_a, s_store_c, s_store_l⟩, ⟨s_waits_a, s_waits_c, s_waits_l⟩, s_serial⟩, ⟨l_a, l_c, l_l⟩, r, o9⟩) 67) :: ho9 ∧ OSl 51 37 o9.val ho9 (o9.l.map PostV.segs) ∧ o9.l = o_l ++ if lessN x.pl frm = [] then [⟨1000 + x.client, ⟨2, s_epoch, 0, ⟨x.client, x.req, 0, 0, ⟨#[]⟩⟩, x.answer, 0, CellV.zero⟩⟩] else []) := by
  obtain ⟨x_key, x_client, x_req, ⟨x_answer_code, x_answer_version, x_answer_has, x_answer_val⟩, x_serial, ⟨x_need_a, x_need_c, x_need_l⟩⟩ := x
  simp only at hb hcl
  refine fh_enterF (fun H => (bw, rowO (WorkerV.segs ⟨⟨s_addr, s_epoch, ⟨s_store_a, s_store_c, s_store_l⟩, ⟨s_waits_a, s_waits_c, s_waits_l⟩, s_serial⟩, ⟨l_a, l_c, l_l⟩, r, ⟨o_a, o_c, o_l⟩⟩) 67) :: (ho ++ H)) (fun _ => by simp only [List.append_assoc, List.cons_append, List.nil_append]) Tryz.func64 rfl Tryz.ntmps64 rfl ?_; intro H
  refine C_seq ?_
  refine C_region (l := [0, 1]) rfl ?_
  refine Y_box ?_; intro b1
  refine Y_assign ?_
  refine XD_end ?_
  refine K_then ?_
  refine Y_pk [6, 4, 0, 2] ?_
  iterate 2 refine C_seq ?_
  refine C_region (l := [0, 1, 2, 3, 4, 5]) rfl ?_
  refine Y_fieldAddr F.foff54_5 ?_
  refine Y_load F.lay52 ?_
  refine Y_move ?_
  refine X_fhR rfl rfl F.ok65 rfl (without_ok M x_need_a x_need_c x_need_l k_x hb frm) (by repeat first | exact Rem.here _ | exact Rem.two | apply Rem.skip | apply Rem.over) (fun _ _ _ hm hw => (hw.lower (by exact hm)).c) (putE_some rfl) ?_
  rintro _ M1 hs1 hm1 ⟨hM1, adx, cpx, rfl, hox⟩; subst M1
  refine Y_len_sl F.elem52 ?_
  refine Y_cmp ?_
  refine XD_end ?_
  refine K_then ?_
  refine Y_pk [12, 6, 4, 0] ?_
  refine C_cond rfl (fun hc2 => ?_) (fun hc2 => ?_)
  ·replace hc2 := dT hc2
   refine C_seq ?_
   refine C_region (l := [0]) rfl ?_
   refine Y_assign ?_
   refine XD_end ?_
   refine K_then ?_
   refine Y_pk [6, 4, 0] ?_
   refine C_ret ?_
   refine K_ret ?_
   refine K_end (.inr rfl) (.tmp rfl .nil) (fun w hw => ?_)
   have hne : ¬ lessN (WaitV.pl ⟨x_key, x_client, x_req, ⟨x_answer_code, x_answer_version, x_answer_has, x_answer_val⟩, x_serial, ⟨x_need_a, x_need_c, x_need_l⟩⟩) frm = [] := fun e9 => by
    have e8 : (x_need_l.filter (notI frm)).length = 0 := congrArg List.length e9
    omega
   refine ⟨_, M, (bw, rowO (WorkerV.segs ⟨⟨s_addr, s_epoch, ⟨s_store_a, s_store_c, s_store_l⟩, ⟨s_waits_a, s_waits_c, s_waits_l⟩, s_serial⟩, ⟨l_a, l_c, l_l⟩, r, ⟨o_a, o_c, o_l⟩⟩) 67) :: ho, rfl, Mem.le.refl M, ?_, rfl, congrArg Value.bool (decide_eq_false hne).symm, ⟨o_a, o_c, o_l⟩, ho, rfl, hO, ?_⟩
   ·exact hw.c
   ·rw [if_neg hne, List.append_nil]
  ·replace hc2 := dF hc2
   refine C_skip ?_
   refine K_then ?_
   refine Y_pk [6, 4, 0] ?_
   refine C_seq ?_
   refine C_regionW (l := [0, 1, 2, 3, 4, 5, 6, 7]) [7] rfl ?_
   refine Y_move ?_
   refine Y_fieldAddr F.foff54_1 ?_
   refine Y_load F.lay3 ?_
   refine Y_fieldAddr F.foff54_2 ?_
   refine Y_load F.lay22 ?_
   refine Y_fieldAddr F.foff54_3 ?_
   refine Y_load F.lay34 ?_
   refine X_fhW rfl rfl rfl F.ok54 rfl (reply_ok M bw s_addr s_epoch s_serial r s_store_a s_waits_a l_a o_a s_store_c s_waits_c l_c o_c s_store_l s_waits_l l_l o_l ho hO (by omega) x_client x_req ⟨x_answer_code, x_answer_version, x_answer_has, x_answer_val⟩ hcl) (by repeat first | exact Rem.here _ | exact Rem.two | apply Rem.skip | apply Rem.over) (putE_some rfl) ?_
   rintro _ M1 hs1 hm1 ⟨hM1, rfl, ⟨o2_a, o2_c, o2_l⟩, ho2, rfl, hO2, ho2l⟩
   subst M1
   simp only at ho2l hO2
   simp only [List.append_assoc, List.cons_append, List.nil_append]
   refine XD_end ?_
   refine K_unw ?_
   refine K_then ?_
   refine Y_pk [6] ?_
   refine C_seq ?_
   refine C_region (l := [0]) rfl ?_
   refine Y_assign ?_
   refine XD_end ?_
   refine K_then ?_
   refine C_ret ?_
   refine K_end (.inr rfl) (.tmp rfl .nil) (fun w hw => ?_)
   have hne : lessN (WaitV.pl ⟨x_key, x_client, x_req, ⟨x_answer_code, x_answer_version, x_answer_has, x_answer_val⟩, x_serial, ⟨x_need_a, x_need_c, x_need_l⟩⟩) frm = [] := List.eq_nil_of_length_eq_zero (by show (x_need_l.filter (notI frm)).length = 0; omega)
   refine ⟨_, M, (bw, rowO (WorkerV.segs ⟨⟨s_addr, s_epoch, ⟨s_store_a, s_store_c, s_store_l⟩, ⟨s_waits_a, s_waits_c, s_waits_l⟩, s_serial⟩, ⟨l_a, l_c, l_l⟩, r, ⟨o2_a, o2_c, o2_l⟩⟩) 67) :: ho2, rfl, Mem.le.refl M, ?_, rfl, congrArg Value.bool (decide_eq_true hne).symm, ⟨o2_a, o2_c, o2_l⟩, ho2, rfl, hO2, ?_⟩
   ·simp only [WorkerV.segs, Sl.val] at hw ⊢
    exact hw.c
   ·rw [if_pos hne]
    exact ho2l

theorem goneW_ok (M : Mem) (bw : Nat) (s_addr s_epoch s_serial r : Int) (s_store_a s_waits_a l_a o_a : Option Addr) (s_store_c s_waits_c l_c o_c : Nat) (s_store_l : List HeldV) (s_waits_l : List WaitV) (l_l : List PeerV) (o_l : List PostV) (bs bp bf : Nat) (serial : Int) (ho : Hp) (hO : OSl 51 37 (.slice o_a o_l.length o_c) ho (o_l.map PostV.segs)) (hL : o_l.length ≤ 80000) (x : WaitV) (k_x : SlK M (oneI .i64) 1 x.need) (hb : x.need.l.length ≤ 1000) (hcl : 0 ≤ x.client ∧ x.client ≤ 63) (frm : Int) : Fh Tryz.prog 63 ([x.enc] ++ [.pointer (some ⟨bs, 0, none⟩), .pointer (some ⟨bp, 0, none⟩), .pointer (some ⟨bf, 0, none⟩)]) M ((bs, rowO [.one (.int .u64 serial)] 22) :: (bp, rowO [.one (.pointer (some ⟨bw, 0, none⟩))] 65) :: (bf, rowO [.one (.int .i64 frm)] 3) :: (bw, rowO (WorkerV.segs ⟨⟨s_addr, s_epoch, ⟨s_store_a, s_store_c, s_store_l⟩, ⟨s_waits_a, s_waits_c, s_waits_l⟩, s_serial⟩, ⟨l_a, l_c, l_l⟩, r, ⟨o_a, o_c, o_l⟩⟩) 67) :: ho) (fun M' v Hout => M' = M ∧ v = .bool (goneW frm serial x) ∧ ∃ (o9 : Sl PostV) (ho9 : Hp), Hout = (bs, rowO [.one (.int .u64 serial)] 22) :: (bp, rowO [.one (.pointer (some ⟨bw, 0, none⟩))] 65) :: (bf, rowO [.one (.int .i64 frm)] 3) :: (bw, rowO (WorkerV.segs ⟨⟨s_addr, s_epoch, ⟨s_store_a, s_store_c, s_store_l⟩, ⟨s_waits_a, s_waits_c, s_waits_l⟩, s_serial⟩, ⟨l_a, l_c, l_l⟩, r, o9⟩) 67) :: ho9 ∧ OSl 51 37 o9.val ho9 (o9.l.map PostV.segs) ∧ o9.l = o_l ++ (doneV s_epoch frm serial x).toList) := by
  obtain ⟨x_key, x_client, x_req, ⟨x_answer_code, x_answer_version, x_answer_has, x_answer_val⟩, x_serial, ⟨x_need_a, x_need_c, x_need_l⟩⟩ := x
  simp only at hb hcl
  refine fh_enterF (fun H => (bs, rowO [.one (.int .u64 serial)] 22) :: (bp, rowO [.one (.pointer (some ⟨bw, 0, none⟩))] 65) :: (bf, rowO [.one (.int .i64 frm)] 3) :: (bw, rowO (WorkerV.segs ⟨⟨s_addr, s_epoch, ⟨s_store_a, s_store_c, s_store_l⟩, ⟨s_waits_a, s_waits_c, s_waits_l⟩, s_serial⟩, ⟨l_a, l_c, l_l⟩, r, ⟨o_a, o_c, o_l⟩⟩) 67) :: (ho ++ H)) (fun _ => by simp only [List.append_assoc, List.cons_append, List.nil_append]) Tryz.func63 rfl Tryz.ntmps63 rfl ?_; intro H
  refine C_seq ?_
  refine C_region (l := [0, 1]) rfl ?_
  refine Y_box ?_; intro b1
  refine Y_assign ?_
  refine XD_end ?_
  refine K_then ?_
  refine Y_pk [5, 4, 1, 2, 3] ?_
  refine C_seq ?_
  refine C_regionW (l := [0, 1, 2, 3, 4, 5, 6, 7, 8, 9, 10]) [8] rfl ?_
  refine Y_fieldAddr F.foff54_4 ?_
  iterate 2 refine Y_load F.lay22 ?_
  refine Y_cmp ?_
  refine Y_move ?_
  refine XD_part 10 rfl (fun hc2 => ?_) (fun hc2 => ?_)
  ·replace hc2 := dT hc2
   refine Y_load F.lay65 ?_
   refine Y_load F.lay54 ?_
   refine Y_load F.lay3 ?_
   refine X_fhW rfl rfl rfl F.ok64 rfl (done_ok M bw s_addr s_epoch s_serial r s_store_a s_waits_a l_a o_a s_store_c s_waits_c l_c o_c s_store_l s_waits_l l_l o_l ho hO (by omega) ⟨x_key, x_client, x_req, ⟨x_answer_code, x_answer_version, x_answer_has, x_answer_val⟩, x_serial, ⟨x_need_a, x_need_c, x_need_l⟩⟩ k_x hb hcl frm) (by repeat first | exact Rem.here _ | exact Rem.two | apply Rem.skip | apply Rem.over) (putE_some rfl) ?_
   rintro _ M1 hs1 hm1 ⟨hM1, rfl, ⟨o2_a, o2_c, o2_l⟩, ho2, rfl, hO2, ho2l⟩
   subst M1
   simp only at ho2l hO2
   simp only [List.append_assoc, List.cons_append, List.nil_append]
   refine Y_pick ?_
   refine Y_assign ?_
   refine XD_end ?_
   refine K_unw ?_
   refine K_then ?_
   refine Y_pk [5] ?_
   refine C_ret ?_
   refine K_end (.inr rfl) (.tmp rfl .nil) (fun w hw => ?_)
   have hse : x_serial = serial := by first | assumption | omega
   refine ⟨_, M, (bs, rowO [.one (.int .u64 serial)] 22) :: (bp, rowO [.one (.pointer (some ⟨bw, 0, none⟩))] 65) :: (bf, rowO [.one (.int .i64 frm)] 3) :: (bw, rowO (WorkerV.segs ⟨⟨s_addr, s_epoch, ⟨s_store_a, s_store_c, s_store_l⟩, ⟨s_waits_a, s_waits_c, s_waits_l⟩, s_serial⟩, ⟨l_a, l_c, l_l⟩, r, ⟨o2_a, o2_c, o2_l⟩⟩) 67) :: ho2, rfl, Mem.le.refl M, ?_, rfl, congrArg Value.bool (decide_eq_decide.2 ⟨fun e9 => ⟨hse, e9⟩, fun e9 => e9.2⟩), ⟨o2_a, o2_c, o2_l⟩, ho2, rfl, hO2, ?_⟩
   ·simp only [WorkerV.segs, Sl.val] at hw ⊢
    exact hw.c
   ·show o2_l = _
    rw [ho2l]
    by_cases hln : lessN (WaitV.pl ⟨x_key, x_client, x_req, ⟨x_answer_code, x_answer_version, x_answer_has, x_answer_val⟩, x_serial, ⟨x_need_a, x_need_c, x_need_l⟩⟩) frm = []
    ·rw [if_pos hln, show doneV s_epoch frm serial ⟨x_key, x_client, x_req, ⟨x_answer_code, x_answer_version, x_answer_has, x_answer_val⟩, x_serial, ⟨x_need_a, x_need_c, x_need_l⟩⟩ = some _ from if_pos ⟨hse, hln⟩]; rfl
    ·rw [if_neg hln, show doneV s_epoch frm serial ⟨x_key, x_client, x_req, ⟨x_answer_code, x_answer_version, x_answer_has, x_answer_val⟩, x_serial, ⟨x_need_a, x_need_c, x_need_l⟩⟩ = none from if_neg (fun e9 => hln e9.2)]; rfl
  ·replace hc2 := dF hc2
   iterate 4 refine Y_skip ?_
   refine Y_pick ?_
   refine Y_assign ?_
   refine XD_end ?_
   refine K_unw ?_
   refine K_then ?_
   refine Y_pk [5] ?_
   refine C_ret ?_
   refine K_end (.inr rfl) (.tmp rfl .nil) (fun w hw => ?_)
   have hne : ¬ (x_serial = serial ∧ lessN (WaitV.pl ⟨x_key, x_client, x_req, ⟨x_answer_code, x_answer_version, x_answer_has, x_answer_val⟩, x_serial, ⟨x_need_a, x_need_c, x_need_l⟩⟩) frm = []) := fun e9 => absurd e9.1 (by assumption)
   refine ⟨_, M, (bs, rowO [.one (.int .u64 serial)] 22) :: (bp, rowO [.one (.pointer (some ⟨bw, 0, none⟩))] 65) :: (bf, rowO [.one (.int .i64 frm)] 3) :: (bw, rowO (WorkerV.segs ⟨⟨s_addr, s_epoch, ⟨s_store_a, s_store_c, s_store_l⟩, ⟨s_waits_a, s_waits_c, s_waits_l⟩, s_serial⟩, ⟨l_a, l_c, l_l⟩, r, ⟨o_a, o_c, o_l⟩⟩) 67) :: ho, rfl, Mem.le.refl M, ?_, rfl, congrArg Value.bool (decide_eq_false hne).symm, ⟨o_a, o_c, o_l⟩, ho, rfl, hO, ?_⟩
   ·exact hw.c
   ·show o_l = o_l ++ _
    rw [show doneV s_epoch frm serial ⟨x_key, x_client, x_req, ⟨x_answer_code, x_answer_version, x_answer_has, x_answer_val⟩, x_serial, ⟨x_need_a, x_need_c, x_need_l⟩⟩ = none from if_neg hne]; simp

end Go.Proofs.YtpkeilhilpogiaaGreat
/-
  Numbers put in order, one by one.
-/
set_option linter.unusedSimpArgs false
set_option linter.unusedVariables false
set_option linter.unnecessarySimpa false
namespace Go.Esp
def SortedTo (w : List Int) (i : Nat) : Prop := ∀ p q (hp : p < w.length) (hq : q < w.length), p < q → q < i → w[p] ≤ w[q]
def InsTo (u : List Int) (i j : Nat) : Prop := ∀ p q (hp : p < u.length) (hq : q < u.length), p < q → q ≤ i → q ≠ j → u[p] ≤ u[q]
theorem ins_start {w : List Int} {i : Nat} (h : SortedTo w i) : InsTo w i i := fun p q hp hq h1 h2 h3 => h p q hp hq h1 (by omega)
theorem ins_end {u : List Int} {i j : Nat} (h : InsTo u i j) (hj : j < u.length) (hle : ∀ h0 : 0 < j, u[j - 1]'(by omega) ≤ u[j]) : SortedTo u (i + 1) := fun p q hp hq h1 h2 => by
  by_cases hqj : q = j
  · subst hqj
    have h3 := hle (by omega)
    rcases Nat.lt_or_ge p (q - 1) with h4 | h4
    · have := h p (q - 1) hp (by omega) h4 (by omega) (by omega)
      omega
    · have e : p = q - 1 := by omega
      subst e; exact h3
  · exact h p q hp hq h1 (by omega) hqj
def swap1 (u : List Int) (j : Nat) (hj : j < u.length) : List Int := (u.set j (u[j - 1]'(by omega))).set (j - 1) u[j]
theorem swap1_perm {u : List Int} {j : Nat} (hj : j < u.length) : (swap1 u j hj).Perm u := List.set_set_perm hj (by omega)
theorem swap1_len {u : List Int} {j : Nat} (hj : j < u.length) : (swap1 u j hj).length = u.length := by unfold swap1; simp
theorem swap1_at {u : List Int} {j : Nat} (hj : j < u.length) (h0 : 0 < j) {q : Nat} (hq : q < u.length) : (swap1 u j hj)[q]'(by rw [swap1_len]; exact hq) = if q = j then u[j - 1]'(by omega) else if q = j - 1 then u[j] else u[q] := by
  unfold swap1
  rw [List.getElem_set, List.getElem_set]
  by_cases h1 : q = j
  · subst h1
    rw [if_neg (by omega), if_pos rfl, if_pos rfl]
  · by_cases h2 : q = j - 1
    · subst h2
      rw [if_pos rfl, if_neg h1, if_pos rfl]
    · rw [if_neg (fun e => h2 e.symm), if_neg (fun e => h1 e.symm), if_neg h1, if_neg h2]
theorem ins_step {u : List Int} {i j : Nat} (h : InsTo u i j) (hj : j < u.length) (hji : j ≤ i) (h0 : 0 < j) (hlt : u[j] < u[j - 1]'(by omega)) : InsTo (swap1 u j hj) i (j - 1) := fun p q hp hq h1 h2 h3 => by
  have gp : p < u.length := by rw [swap1_len] at hp; exact hp
  have gq : q < u.length := by rw [swap1_len] at hq; exact hq
  rw [swap1_at hj h0 gp, swap1_at hj h0 gq]
  by_cases hqj : q = j
  · subst hqj
    rw [if_pos rfl, if_neg (by omega)]
    by_cases hpj : p = q - 1
    · rw [if_pos hpj]; omega
    · rw [if_neg hpj]
      exact h p (q - 1) gp (by omega) (by omega) (by omega) (by omega)
  · rw [if_neg hqj, if_neg h3]
    by_cases hpj : p = j
    · rw [if_pos hpj]
      exact h (j - 1) q (by omega) gq (by omega) h2 hqj
    · rw [if_neg hpj]
      by_cases hpj1 : p = j - 1
      · rw [if_pos hpj1]
        exact h j q hj gq (by omega) h2 hqj
      · rw [if_neg hpj1]
        exact h p q gp gq h1 h2 hqj
theorem sorted_pw {w : List Int} {i : Nat} (h : SortedTo w i) (hi : w.length ≤ i) : w.Pairwise (fun x y => x ≤ y) := List.pairwise_iff_getElem.2 fun p q hp hq h1 => h p q hp hq h1 (by omega)
theorem int_sorted_eq : ∀ {a b : List Int}, a.Perm b → a.Pairwise (fun x y => x ≤ y) → b.Pairwise (fun x y => x < y) → a = b
  | [], b, hp, _, _ => (List.nil_perm.1 hp).symm
  | x :: a, [], hp, _, _ => absurd (List.perm_nil.1 hp) (by simp)
  | x :: a, y :: b, hp, ha, hb => by
    have h1 := List.pairwise_cons.1 ha
    have h2 := List.pairwise_cons.1 hb
    have e : x = y := by
      rcases List.mem_cons.1 (hp.mem_iff.1 (.head _)) with e | hx
      · exact e
      · rcases List.mem_cons.1 (hp.mem_iff.2 (.head _)) with e | hy
        · exact e.symm
        · have h3 := h2.1 x hx
          have h4 := h1.1 y hy
          omega
    subst e
    rw [int_sorted_eq ((List.perm_cons x).1 hp) h1.2 h2.2]
theorem copies_pos {l : List PeerV} (hl : IsCircle l) {x : Plc} {r : Int} (hr : 1 ≤ r ∧ r ≤ 8) : 1 ≤ (copiesR l x r).1.length := by
  unfold copiesR
  rw [if_pos ⟨hl, hr.1, hr.2⟩]
  simp only [List.length_map, List.length_range]
  have := hl.1.1
  omega
theorem others_sorted {l : List PeerV} (hl : IsCircle l) {r : Int} (hr : 1 ≤ r ∧ r ≤ 8) {key : Plc} {q : List Int} (hp : q.Perm (addrsR l (copiesR l key r).1)) (hs : q.Pairwise (fun x y => x ≤ y)) : q = othersR l r key := by
  obtain ⟨hcn, hca⟩ := copies_at hl hr (x := key) rfl
  have hnd := addrs_nodup hl hcn hca
  have hb : ∀ a ∈ addrsR l (copiesR l key r).1, 0 ≤ a ∧ a ≤ 999 := fun a ha => by
    obtain ⟨j, hj, rfl⟩ := List.getElem_of_mem ha
    rw [addrs_len] at hj
    obtain ⟨i, hi, hil⟩ := hca (j + 1) (by omega)
    have h9 := addrs_at (l := l) (k := j + 1) (by omega) (by omega) hi hil
    simp only [Nat.add_sub_cancel] at h9
    rw [List.getElem?_eq_getElem (by rw [addrs_len]; omega)] at h9
    rw [Option.some.inj h9]
    exact hl.2.1 _ (List.getElem_mem _)
  refine int_sorted_eq (hp.trans ?_) hs upto_sorted
  refine (List.perm_ext_iff_of_nodup hnd (upto_sorted.imp (fun h => by omega))).2 fun a => ?_
  rw [upto_mem]
  exact ⟨fun h => ⟨h, (hb a h).1, by have := (hb a h).2; show a < ((1000 : Nat) : Int); omega⟩, fun h => h.1⟩
theorem addrs_step {l : List PeerV} {c : List Int} {k : Nat} (hk : k + 1 < c.length) {i : Nat} (e : c[k + 1] = (i : Int)) (hi : i < l.length) : (addrsR l c).take (k + 1) = (addrsR l c).take k ++ [l[i].addr] := by
  rw [List.take_add_one, show (addrsR l c)[k]? = some l[i].addr from by have h9 := addrs_at (l := l) (k := k + 1) (by omega) hk e hi; simpa using h9]; rfl
end Go.Esp
/-
  Numbers put in order.
-/
set_option linter.unusedSimpArgs false
set_option linter.unusedVariables false
set_option linter.unnecessarySimpa false
set_option maxRecDepth 8000
set_option maxHeartbeats 1000000
namespace Go.Proofs.YtpkeilhilpogiaaGreat
open Go.Esp
theorem F.ok115 : okFn Tryz.prog 115 = true := by kernel_rfl
theorem F.ok124 : okFn Tryz.prog 124 = true := by kernel_rfl
theorem F.ok130 : okFn Tryz.prog 130 = true := by kernel_rfl
theorem F.ok143 : okFn Tryz.prog 143 = true := by kernel_rfl

theorem isNaN_ok (M : Mem) (x : Int) : Fs Tryz.prog 143 [.int .i64 x] M (fun v => v = Value.bool (false)) := by
  refine fs_enter Tryz.func143 rfl Tryz.ntmps143 rfl ?_; intro H
  refine C_seq ?_
  refine C_region (l := [0]) rfl ?_
  refine Y_assign ?_
  refine XD_end ?_
  refine K_then ?_
  refine C_seq ?_
  refine C_region (l := [0, 1, 2, 3]) rfl ?_
  iterate 2 refine Y_move ?_
  refine Y_cmp ?_
  refine Y_assign ?_
  refine XD_end ?_
  refine K_then ?_
  refine Y_pk [2] ?_
  refine C_ret ?_
  refine K_end (.inr rfl) (.tmp rfl .nil) (fun w hw => ?_)
  refine ⟨_, rfl, (hw.c), ?_⟩
  clear hw
  (simp; rfl)

theorem lessI_ok (M : Mem) (x : Int) (y : Int) : Fs Tryz.prog 130 [.int .i64 x, .int .i64 y] M (fun v => v = Value.bool (decide (x < y))) := by
  refine fs_enter Tryz.func130 rfl Tryz.ntmps130 rfl ?_; intro H
  refine C_seq ?_
  refine C_region (l := [0]) rfl ?_
  refine Y_assign ?_
  refine XD_end ?_
  refine K_then ?_
  refine C_seq ?_
  refine C_region (l := [0, 1, 2, 3, 4, 5, 6, 7, 8, 9, 10, 11, 12]) rfl ?_
  refine Y_move ?_
  refine X_fs rfl rfl F.ok143 rfl (isNaN_ok _ _) rfl ?_
  rintro _ rfl
  refine Y_move ?_
  refine XD_part 7 rfl (fun hc1 => ?_) (fun hc1 => ?_)
  ·skip
   (exfalso; simp [eqX] at hc1; done)
  ·skip
   simp only [AnswerV.eta, MarkV.eta, CellV.eta, HeldV.eta, WaitV.eta, ServerV.eta, PeerV.eta, OpV.eta, ParcelV.eta, PostV.eta, WorkerV.eta] at hc1
   iterate 3 refine Y_skip ?_
   refine Y_pick ?_
   iterate 3 refine Y_move ?_
   refine Y_cmp ?_
   refine Y_pick ?_
   refine Y_assign ?_
   refine XD_end ?_
   refine K_then ?_
   refine Y_pk [4] ?_
   refine C_ret ?_
   refine K_end (.inr rfl) (.tmp rfl .nil) (fun w hw => ?_)
   refine ⟨_, rfl, (hw.c), ?_⟩
   clear hw
   rfl

theorem InsO_ok (M : Mem) (a : Option Addr) (n c : Nat) (l : List Int) (hln : l.length = n) (hn : n ≤ 12) (hs : Hp) (ho : OSl 3 1 (.slice a n c) hs (l.map (oneI .i64))) : Fh Tryz.prog 124 [.slice a n c, .int .i64 0, .int .i64 (n : Int)] M hs (fun M' v Hout => M' = M ∧ v = .tuple #[] ∧ ∃ l' : List Int, l'.Perm l ∧ l'.Pairwise (fun x y => x ≤ y) ∧ OSl 3 1 (.slice a n c) Hout (l'.map (oneI .i64))) := by
  refine fh_enter Tryz.func124 rfl Tryz.ntmps124 rfl ?_; intro H
  refine C_seq ?_
  refine C_region (l := [0, 1, 2]) rfl ?_
  refine Y_move ?_
  refine X_ari rfl rfl rfl rfl rfl (by exact wrap_in (by decide) (by omega)) rfl ?_
  refine Y_assign ?_
  refine XD_end ?_
  refine K_then ?_
  refine Y_pk [6, 0, 1, 2] ?_
  refine C_block ?_
  refine Y_pk [6, 0, 1, 2] ?_
  refine C_loopO (Hin := hs) (.succ .zero) (by repeat first | exact Rem.here _ | exact Rem.two | apply Rem.skip | apply Rem.over) (fun (i : Nat) M1 h1 z => ∃ w : List Int, M1 = M ∧ z = [(6, .int .i64 (i : Int))] ∧ 1 ≤ i ∧ (i ≤ n ∨ i = 1) ∧ w.length = n ∧ w.Perm l ∧ SortedTo w i ∧ OSl 3 1 (.slice a n c) h1 (w.map (oneI .i64))) (fun i => n - i) (1) (⟨l, rfl, rfl, by omega, by omega, hln, .refl _, (fun p q hp hq h1 h2 => by omega), ho⟩) ?_
  rintro i M1 h1 z hm1 ⟨wl, hM1, rfl, hi1, hin, hwl, hwp, hws, ho1⟩
  subst M1
  iterate 2 refine C_seq ?_
  refine C_region (l := [0, 1, 2]) rfl ?_
  iterate 2 refine Y_move ?_
  refine Y_cmp ?_
  refine XD_end ?_
  refine K_then ?_
  refine C_cond rfl (fun hc1 => ?_) (fun hc1 => ?_)
  ·replace hc1 := dT hc1
   refine C_skip ?_
   refine K_then ?_
   refine C_seq ?_
   refine C_block ?_
   refine C_seq ?_
   refine C_region (l := [0, 1]) rfl ?_
   refine Y_move ?_
   refine Y_assign ?_
   refine XD_end ?_
   refine K_then ?_
   refine C_block ?_
   refine Y_pk [7, 15, 12, 11, 10, 6, 0, 1, 2] ?_
   refine C_loopO (Hin := h1) (.succ .zero) (by repeat first | exact Rem.here _ | exact Rem.two | apply Rem.skip | apply Rem.over) (fun (j : Nat) M2 h2 z => ∃ u : List Int, M2 = M ∧ z = [(7, .int .i64 (j : Int))] ∧ j ≤ i ∧ u.length = n ∧ u.Perm l ∧ InsTo u i j ∧ OSl 3 1 (.slice a n c) h2 (u.map (oneI .i64))) (fun j => j) (i) (⟨wl, rfl, rfl, by omega, hwl, hwp, ins_start hws, ho1⟩) ?_
   rintro j M2 h2 z hm2 ⟨u, hM2, rfl, hji, hul, hup, hus, ho2⟩
   subst M2
   have hnu : (u.map (oneI .i64)).length = u.length := List.length_map ..
   have hjn : j < u.length := by omega
   iterate 2 refine C_seq ?_
   refine C_region_any (l := [0, 1, 2, 3, 4, 5, 6, 7, 8, 9, 10, 11, 12, 13, 14]) #[0, 0, 3, 7, 15, 15, 63, 127, 15, 15, 527, 1807, 3855, 8191, 16383] _ rfl (by kernel_rfl) (by kernel_rfl) St.drawn (fun _ h => h) ?_
   iterate 2 refine Y_move ?_
   refine Y_cmp ?_
   refine Y_move ?_
   refine XD_part 19 rfl (fun hc2 => ?_) (fun hc2 => ?_)
   ·replace hc2 := dT hc2
    iterate 2 refine Y_move ?_
    refine X_indexAddr rfl rfl rfl rfl F.elem52 (by rfl) (by omega) (by exact OSl.plain (by assumption) (by (simp; omega))) rfl ?_
    refine X_load_osl rfl rfl rfl (by assumption) (by repeat first | exact Rem.here _ | exact Rem.two | apply Rem.skip | apply Rem.over) (by exact row_map (by omega)) F.lay3 rfl rfl rfl ?_
    iterate 2 refine Y_move ?_
    refine X_ari rfl rfl rfl rfl rfl (by exact wrap_in (by decide) (by omega)) rfl ?_
    rw [show ((j : Nat) : Int) - 1 = ((j - 1 : Nat) : Int) by omega]
    refine X_indexAddr rfl rfl rfl rfl F.elem52 (by rfl) (by omega) (by exact OSl.plain (by assumption) (by (simp; omega))) rfl ?_
    refine X_load_osl rfl rfl rfl (by assumption) (by repeat first | exact Rem.here _ | exact Rem.two | apply Rem.skip | apply Rem.over) (by exact row_map (by omega)) F.lay3 rfl rfl rfl ?_
    refine X_fs rfl rfl F.ok130 rfl (lessI_ok _ _ _) rfl ?_
    rintro _ rfl
    refine Y_pick ?_
    refine XD_end ?_
    refine K_then ?_
    refine C_cond rfl (fun hc3 => ?_) (fun hc3 => ?_)
    ·replace hc3 := dT hc3
     refine C_skip ?_
     refine K_then ?_
     refine C_seq ?_
     refine C_block ?_
     refine C_region_any (l := [0, 1, 2, 3, 4, 5, 6, 7, 8, 9, 10, 11, 12, 13, 14, 15, 16, 17]) #[0, 0, 0, 0, 8, 0, 0, 64, 224, 480, 0, 0, 3072, 7168, 16355, 32739, 65535, 131071] _ rfl (by kernel_rfl) (by kernel_rfl) St.drawn (fun _ h => h) ?_
     iterate 4 refine Y_move ?_
     refine X_ari rfl rfl rfl rfl rfl (by exact wrap_in (by decide) (by omega)) rfl ?_
     rw [show ((j : Nat) : Int) - 1 = ((j - 1 : Nat) : Int) by omega]
     iterate 2 refine Y_move ?_
     refine X_ari rfl rfl rfl rfl rfl (by exact wrap_in (by decide) (by omega)) rfl ?_
     rw [show ((j : Nat) : Int) - 1 = ((j - 1 : Nat) : Int) by omega]
     refine X_indexAddr rfl rfl rfl rfl F.elem52 (by rfl) (by omega) (by exact OSl.plain (by assumption) (by (simp; omega))) rfl ?_
     refine X_load_osl rfl rfl rfl (by assumption) (by repeat first | exact Rem.here _ | exact Rem.two | apply Rem.skip | apply Rem.over) (by exact row_map (by omega)) F.lay3 rfl rfl rfl ?_
     iterate 2 refine Y_move ?_
     refine X_indexAddr rfl rfl rfl rfl F.elem52 (by rfl) (by omega) (by exact OSl.plain (by assumption) (by (simp; omega))) rfl ?_
     refine X_load_osl rfl rfl rfl (by assumption) (by repeat first | exact Rem.here _ | exact Rem.two | apply Rem.skip | apply Rem.over) (by exact row_map (by omega)) F.lay3 rfl rfl rfl ?_
     refine X_indexAddr rfl rfl rfl rfl F.elem52 (by rfl) (by omega) (by exact OSl.plain (by assumption) (by (simp; omega))) rfl ?_
     obtain ⟨b6, rfl⟩ := ho2.someB (by omega)
     refine X_storeO (b := b6) (j := j) rfl rfl rfl rfl (by constructor) (flat_one rfl flat_nil) F.lay3 rfl rfl ho2 (by repeat first | exact Rem.here _ | exact Rem.two | apply Rem.skip | apply Rem.over) (by simp; omega) ?_; intro hs7 ho7
     replace ho7 : OSl 3 1 (.slice (some ⟨b6, 0, none⟩) n c) hs7 ((u.set j (u[j - 1]'(by omega))).map (oneI .i64)) := by rw [List.map_set]; exact ho7.as (by simp; omega)
     refine X_indexAddr rfl rfl rfl rfl F.elem52 (by rfl) (by omega) (by exact ⟨_, _, rfl⟩) rfl ?_
     refine X_storeO (b := b6) (j := j - 1) rfl rfl rfl rfl (by constructor) (flat_one rfl flat_nil) F.lay3 rfl rfl ho7 (by repeat first | exact Rem.here _ | exact Rem.two | apply Rem.skip | apply Rem.over) (by simp; omega) ?_; intro hs8 ho8
     replace ho8 : OSl 3 1 (.slice (some ⟨b6, 0, none⟩) n c) hs8 ((swap1 u j hjn).map (oneI .i64)) := by unfold swap1; rw [List.map_set]; exact ho8.as (by simp; omega)
     refine XD_end ?_
     refine K_out ?_
     refine K_then ?_
     refine C_region (l := [0, 1, 2]) rfl ?_
     refine Y_move ?_
     refine X_ari rfl rfl rfl rfl rfl (by exact wrap_in (by decide) (by omega)) rfl ?_
     rw [show ((j : Nat) : Int) - 1 = ((j - 1 : Nat) : Int) by omega]
     refine Y_assign ?_
     refine XD_end ?_
     refine K_roundO (a' := [(7, _)]) (j - 1) (hs8) (.cons (k := 7) rfl (.cons (k := 15) rfl (.cons (k := 12) rfl (.cons (k := 11) rfl (.cons (k := 10) rfl (.cons (k := 6) rfl (.cons (k := 0) rfl (.cons (k := 1) rfl (.cons (k := 2) rfl (.nil)))))))))) (by exact Mem.le.refl _) (fun w hw => by first | exact hw | exact hw.c) ?_ ?_
     ·exact ⟨swap1 u j hjn, rfl, rfl, by omega, by rw [swap1_len]; exact hul, (swap1_perm hjn).trans hup, ins_step hus hjn hji (by omega) (by assumption), ho8⟩
     ·omega
    ·replace hc3 := dF hc3
     refine C_exit ?_
     iterate 2 refine K_exit ?_
     refine K_hit ?_
     refine K_out ?_
     refine K_then ?_
     refine C_region (l := [0, 1, 2]) rfl ?_
     refine Y_move ?_
     refine X_ari rfl rfl rfl rfl rfl (by exact wrap_in (by decide) (by omega)) rfl ?_
     refine Y_assign ?_
     refine XD_end ?_
     refine K_roundO (a' := [(6, _)]) (i + 1) (h2) (.cons (k := 6) rfl (.cons (k := 0) rfl (.cons (k := 1) rfl (.cons (k := 2) rfl (.nil))))) (by exact Mem.le.refl _) (fun w hw => by first | exact hw | exact hw.c) ?_ ?_
     ·exact ⟨u, rfl, rfl, by omega, by omega, hul, hup, ins_end hus (by omega) (fun h0 => by first | omega | (exfalso; omega)), ho2⟩
     ·omega
   ·replace hc2 := dF hc2
    iterate 10 refine Y_skip ?_
    refine Y_pick ?_
    refine XD_end ?_
    refine K_then ?_
    refine C_false rfl ?_
    refine C_exit ?_
    iterate 2 refine K_exit ?_
    refine K_hit ?_
    refine K_out ?_
    refine K_then ?_
    refine C_region (l := [0, 1, 2]) rfl ?_
    refine Y_move ?_
    refine X_ari rfl rfl rfl rfl rfl (by exact wrap_in (by decide) (by omega)) rfl ?_
    refine Y_assign ?_
    refine XD_end ?_
    refine K_roundO (a' := [(6, _)]) (i + 1) (h2) (.cons (k := 6) rfl (.cons (k := 0) rfl (.cons (k := 1) rfl (.cons (k := 2) rfl (.nil))))) (by exact Mem.le.refl _) (fun w hw => by first | exact hw | exact hw.c) ?_ ?_
    ·exact ⟨u, rfl, rfl, by omega, by omega, hul, hup, ins_end hus (by omega) (fun h0 => by first | omega | (exfalso; omega)), ho2⟩
    ·omega
  ·replace hc1 := dF hc1
   refine C_exit ?_
   iterate 2 refine K_exit ?_
   refine K_hit ?_
   refine K_end (.inl rfl) (.nil) (fun w hw => ?_)
   exact ⟨_, M, h1, rfl, Mem.le.refl M, hw.c, rfl, rfl, wl, hwp, sorted_pw hws (by omega), ho1⟩

theorem PdqO_ok (M : Mem) (a : Option Addr) (n c : Nat) (l : List Int) (hln : l.length = n) (hn : n ≤ 12) (hs : Hp) (ho : OSl 3 1 (.slice a n c) hs (l.map (oneI .i64))) (lim : Int) : Fh Tryz.prog 115 [.slice a n c, .int .i64 0, .int .i64 (n : Int), .int .i64 lim] M hs (fun M' v Hout => M' = M ∧ v = .tuple #[] ∧ ∃ l' : List Int, l'.Perm l ∧ l'.Pairwise (fun x y => x ≤ y) ∧ OSl 3 1 (.slice a n c) Hout (l'.map (oneI .i64))) := by
  refine fh_enter Tryz.func115 rfl Tryz.ntmps115 rfl ?_; intro H
  refine C_seq ?_
  refine C_region (l := [0]) rfl ?_
  refine Y_assign ?_
  refine XD_end ?_
  refine K_then ?_
  refine C_seq ?_
  refine C_region (l := [0]) rfl ?_
  refine Y_assign ?_
  refine XD_end ?_
  refine K_then ?_
  refine C_block ?_
  refine Y_pk [1, 2, 3, 8, 9, 0] ?_
  refine C_loopS (.succ (.succ (.succ (.succ (.succ .zero))))) (fun (_ : Nat) z => z = [(1, .int .i64 0), (2, .int .i64 (n : Int)), (3, .int .i64 lim), (8, .bool true), (9, .bool true)]) (fun _ => 1) (0) (rfl) ?_
  rintro _ _ rfl
  refine C_block ?_
  refine C_seq ?_
  refine C_region (l := [0, 1, 2, 3]) rfl ?_
  iterate 2 refine Y_move ?_
  refine X_ari rfl rfl rfl rfl rfl (by exact wrap_in (by decide) (by omega)) rfl ?_
  refine Y_assign ?_
  refine XD_end ?_
  refine K_then ?_
  iterate 2 refine C_seq ?_
  refine C_region (l := [0, 1]) rfl ?_
  refine Y_move ?_
  refine Y_cmp ?_
  refine XD_end ?_
  refine K_then ?_
  refine C_cond rfl (fun hc1 => ?_) (fun hc1 => ?_)
  ·replace hc1 := dT hc1
   refine C_seq ?_
   refine C_regionW (l := [0, 1, 2, 3]) [3] rfl ?_
   iterate 3 refine Y_move ?_
   refine X_fhW rfl rfl rfl F.ok124 rfl (InsO_ok M a n c l hln hn hs ho) (by repeat first | exact Rem.here _ | exact Rem.two | apply Rem.skip | apply Rem.over) (putE_some rfl) ?_
   rintro _ M1 hs9 hm1 ⟨hM1, rfl, l9, hp9, hq9, ho9⟩
   subst M1
   refine XD_end ?_
   refine K_unw ?_
   refine K_then ?_
   refine Y_pk [26, 25, 24, 23, 22, 10, 21, 20, 19, 1, 2, 3, 8, 9, 0] ?_
   refine C_ret ?_
   refine K_ret ?_
   refine K_retB ?_
   refine K_ret ?_
   refine K_retB ?_
   refine K_end (.inr rfl) (.nil) (fun w hw => ?_)
   exact ⟨_, M, hs9, rfl, Mem.le.refl M, hw.c, rfl, rfl, l9, hp9, hq9, ho9⟩
  ·replace hc1 := dF hc1
   (exfalso; omega)

theorem LenO_ok (M : Mem) (n : Nat) (hn : n ≤ 12) : Fs Tryz.prog 116 [.int .u64 (n : Int)] M (fun v => v = .int .i64 ((Lib.bitLen n : Nat) : Int)) := fun H w hw => (Any.bits_Len (SlLaysF0.n15.bits (P := Tryz.prog) (ρ := Tryz.sortL_ren) { Tryz.sortL with }) n w (by omega) (by omega)).mono fun _ _ ⟨he, hw2⟩ => ⟨_, he, by rw [hw2]; exact hw, rfl⟩

theorem SortO_ok (M : Mem) (a : Option Addr) (n c : Nat) (l : List Int) (hln : l.length = n) (hn : n ≤ 12) (hs : Hp) (ho : OSl 3 1 (.slice a n c) hs (l.map (oneI .i64))) : Fh Tryz.prog 96 [.slice a n c] M hs (fun M' v Hout => M' = M ∧ v = .tuple #[] ∧ ∃ l' : List Int, l'.Perm l ∧ l'.Pairwise (fun x y => x ≤ y) ∧ OSl 3 1 (.slice a n c) Hout (l'.map (oneI .i64))) := by
  refine fh_enter Tryz.func96 rfl Tryz.ntmps96 rfl ?_; intro H
  refine C_seq ?_
  refine C_region (l := [0, 1, 2]) rfl ?_
  refine Y_move ?_
  refine Y_len_sl F.elem52 ?_
  refine Y_assign ?_
  refine XD_end ?_
  refine K_then ?_
  refine Y_pk [2, 0] ?_
  refine C_regionW (l := [0, 1, 2, 3, 4, 5]) [5] rfl ?_
  iterate 3 refine Y_move ?_
  refine X_conv rfl rfl rfl Tryz.underlying3 Tryz.underlying144 (by exact wrap_u64_in (by decide) (by omega)) rfl ?_
  refine X_fs rfl rfl F.ok116 rfl (LenO_ok M n hn) rfl ?_
  rintro _ rfl
  refine X_fhW rfl rfl rfl F.ok115 rfl (PdqO_ok M a n c l hln hn hs ho _) (by repeat first | exact Rem.here _ | exact Rem.two | apply Rem.skip | apply Rem.over) (putE_some rfl) ?_
  rintro _ M1 hs9 hm1 ⟨hM1, rfl, l9, hp9, hq9, ho9⟩
  subst M1
  refine XD_end ?_
  refine K_unw ?_
  refine K_end (.inl rfl) (.nil) (fun w hw => ?_)
  exact ⟨_, M, hs9, rfl, Mem.le.refl M, hw.c, rfl, rfl, l9, hp9, hq9, ho9⟩

end Go.Proofs.YtpkeilhilpogiaaGreat
/-
  The others that keep a key.
-/
set_option linter.unusedSimpArgs false
set_option linter.unusedVariables false
set_option linter.unnecessarySimpa false
set_option maxRecDepth 8000
set_option maxHeartbeats 1000000
namespace Go.Proofs.YtpkeilhilpogiaaGreat
open Go.Esp
theorem F.foff67_1 : foff Tryz.prog 67 1 = some 5 := by kernel_rfl
theorem F.foff67_2 : foff Tryz.prog 67 2 = some 6 := by kernel_rfl
theorem F.ok95 : okFn Tryz.prog 95 = true := by kernel_rfl
theorem F.ok96 : okFn Tryz.prog 96 = true := by kernel_rfl

theorem others_ok9 (M : Mem) (bw : Nat) (s_addr s_epoch s_serial r : Int) (s_store_a s_waits_a l_a o_a : Option Addr) (s_store_c s_waits_c l_c o_c : Nat) (s_store_l : List HeldV) (s_waits_l : List WaitV) (l_l : List PeerV) (o_l : List PostV) (k_l : SlK M PeerV.segs 21 ⟨l_a, l_c, l_l⟩) (hci : IsCircle l_l) (hr : 1 ≤ r ∧ r ≤ 8) (key : Plc) : Fh Tryz.prog 58 [.pointer (some ⟨bw, 0, none⟩), aggV [idSeg key]] M [(bw, rowO (WorkerV.segs ⟨⟨s_addr, s_epoch, ⟨s_store_a, s_store_c, s_store_l⟩, ⟨s_waits_a, s_waits_c, s_waits_l⟩, s_serial⟩, ⟨l_a, l_c, l_l⟩, r, ⟨o_a, o_c, o_l⟩⟩) 67)] (fun M' v Hout => Hout = [(bw, rowO (WorkerV.segs ⟨⟨s_addr, s_epoch, ⟨s_store_a, s_store_c, s_store_l⟩, ⟨s_waits_a, s_waits_c, s_waits_l⟩, s_serial⟩, ⟨l_a, l_c, l_l⟩, r, ⟨o_a, o_c, o_l⟩⟩) 67)] ∧ ∃ q : Sl Int, v = q.val ∧ q.l = othersR l_l r key ∧ SlK M' (oneI .i64) 1 q) := by
  refine fh_enterF (fun H => (bw, rowO (WorkerV.segs ⟨⟨s_addr, s_epoch, ⟨s_store_a, s_store_c, s_store_l⟩, ⟨s_waits_a, s_waits_c, s_waits_l⟩, s_serial⟩, ⟨l_a, l_c, l_l⟩, r, ⟨o_a, o_c, o_l⟩⟩) 67) :: H) (fun _ => by simp only [List.append_assoc, List.cons_append, List.nil_append]) Tryz.func58 rfl Tryz.ntmps58 rfl ?_; intro H
  refine C_seq ?_
  refine C_region (l := [0, 1]) rfl ?_
  refine Y_box ?_; intro b1
  refine Y_assign ?_
  refine XD_end ?_
  refine K_then ?_
  refine Y_pk [4, 3, 0] ?_
  refine C_seq ?_
  refine C_region_any (l := [0, 1, 2, 3, 4, 5, 6, 7, 8, 9, 10, 11, 12, 13, 14]) #[0, 1, 3, 7, 0, 0, 32, 96, 224, 511, 1023, 2047, 2047, 4095, 16383] _ rfl (by kernel_rfl) (by kernel_rfl) St.drawn (fun _ h => h) ?_
  refine Y_move ?_
  refine Y_nilCheck ?_
  refine Y_fieldAddr F.foff67_1 ?_
  refine Y_load F.lay27 ?_
  refine Y_load F.lay29 ?_
  refine Y_move ?_
  refine Y_nilCheck ?_
  refine Y_fieldAddr F.foff67_2 ?_
  refine Y_load F.lay3 ?_
  refine X_fn rfl rfl F.ok95 rfl (Copies_ok _ ⟨l_a, l_c, l_l⟩ key r k_l) rfl ?_
  rintro _ M1 hm1 ⟨⟨c_a, c_c, c_l⟩, rfl, hcl, k_c⟩
  simp only at hcl
  have m_c : c_l.length ≤ 9223372036854775807 := k_c.h2
  have c_c9 : c_l.length ≤ c_c := k_c.h3
  have hpos : 1 ≤ c_l.length := by rw [hcl]; exact copies_pos hci hr
  have hc8 : c_l.length ≤ 8 := by rw [hcl]; exact copies_len hr
  obtain ⟨hcn, hca⟩ := copies_at hci hr hcl
  obtain ⟨ad, had⟩ : ∃ ad, addrsR l_l c_l = ad := ⟨_, rfl⟩
  have hadl : ad.length = c_l.length - 1 := by rw [← had]; exact addrs_len
  have s_l1 := k_l.h1.mono hm1
  try simp only at s_l1
  have n_l : (l_l.map PeerV.segs).length = l_l.length := List.length_map ..
  have k_d0 := k_c.drop 1 hpos
  have s_d0 := k_d0.h1
  try simp only at s_d0
  have n_d0 : ((c_l.drop 1).map (oneI .i64)).length = c_l.length - 1 := by rw [List.length_map, List.length_drop]
  refine Y_move ?_
  iterate 2 refine Y_extract ?_
  iterate 2 refine Y_assign ?_
  refine XD_end ?_
  refine K_then ?_
  refine Y_pk [5, 4, 0] ?_
  refine C_seq ?_
  refine C_region (l := [0]) rfl ?_
  refine Y_assign ?_
  refine XD_end ?_
  refine K_then ?_
  iterate 2 refine C_seq ?_
  refine C_region (l := [0, 1, 2, 3]) rfl ?_
  refine Y_move ?_
  refine X_slice rfl rfl rfl (.some (k := 1) rfl rfl) .none .none F.elem52 (by simp only [Option.getD_none]; omega) (by simp only [Option.getD_some, Option.getD_none]; omega) (by simp only [Option.getD_some, Option.getD_none]; omega) (by simp) (pieceV_drop (l := c_l) (k := 1)) rfl ?_
  simp only [Option.getD_none]
  have hdl : (c_l.drop 1).length = c_l.length - 1 := List.length_drop
  refine Y_len_sl F.elem52 ?_
  refine Y_move ?_
  refine XD_end ?_
  refine K_then ?_
  refine Y_pk [26, 25, 24, 7, 4, 0] ?_
  refine C_block ?_
  refine Y_pk [26, 7, 25, 24, 4, 0] ?_
  refine C_loopO (Hin := []) (.succ (.succ .zero)) (by repeat first | exact Rem.here _ | exact Rem.two | apply Rem.skip | apply Rem.over) (fun (k : Nat) M2 h2 z => ∃ v, M2 = M1 ∧ z = [(26, .int .i64 (k : Int)), (7, v)] ∧ k ≤ c_l.length - 1 ∧ OSl 3 1 v h2 ((ad.take k).map (oneI .i64))) (fun k => c_l.length - 1 - k) (0) (⟨_, rfl, rfl, by omega, OSl.nil⟩) ?_
  rintro k M2 h2 z hm2 ⟨v2, hM2, rfl, hk9, ho⟩
  subst M2
  obtain ⟨ad0, cp0, rfl⟩ := ho.val
  have hml : ((ad.take k).map (oneI .i64)).length = k := by simp; omega
  rw [hml] at ho ⊢
  refine C_seq ?_
  refine C_region (l := [0]) rfl ?_
  refine Y_cmp ?_
  refine XD_end ?_
  refine K_then ?_
  refine C_seq ?_
  refine C_cond rfl (fun hc2 => ?_) (fun hc2 => ?_)
  ·replace hc2 := dT hc2
   refine C_skip ?_
   refine K_then ?_
   refine C_seq ?_
   refine C_block ?_
   refine C_seq ?_
   refine C_region (l := [0, 1, 2]) rfl ?_
   refine X_indexAddr rfl rfl rfl rfl F.elem52 (by rfl) (by omega) (by exact SlM.plain (by assumption) (by (simp; omega))) rfl ?_
   refine X_load_el rfl rfl rfl (by assumption) (by exact row_map (by omega)) F.lay3 rfl rfl rfl ?_
   obtain ⟨i0, hi0, hil⟩ := hca (k + 1) (by omega)
   have hdk : (c_l.drop 1)[k]'(by rw [List.length_drop]; omega) = (i0 : Int) := by rw [List.getElem_drop]; simpa [Nat.add_comm] using hi0
   rw [hdk]
   refine Y_assign ?_
   refine XD_end ?_
   refine K_then ?_
   refine C_region (l := [0, 1, 2, 3, 4, 5, 6, 7, 8, 9, 10, 11]) rfl ?_
   iterate 2 refine Y_move ?_
   refine Y_nilCheck ?_
   refine Y_fieldAddr F.foff67_1 ?_
   refine Y_load F.lay27 ?_
   refine Y_move ?_
   refine X_indexAddr rfl rfl rfl rfl F.elem27 (by rfl) (by omega) (by exact SlM.plain (by assumption) (by (simp; omega))) rfl ?_
   refine X_fieldAddr_el rfl rfl rfl (by exact SlM.plain (by assumption) (by (simp; omega))) F.foff80_0 rfl ?_
   refine X_load_el rfl rfl rfl (by assumption) (by exact row_map (by omega)) F.lay3 rfl rfl rfl ?_
   refine X_buildSliceF rfl rfl F.elem52 F.zero3 rfl rfl (.cons rfl (by constructor) .nil) rfl rfl (by simp only [List.map_cons, List.map_nil] <;> rfl) rfl ?_; intro b3 hob4
   refine X_append (m := 1000000) rfl rfl rfl rfl rfl F.elem52 F.zero3 (by rfl) rfl (by assumption) (by repeat first | exact Rem.here _ | exact Rem.two | apply Rem.skip | apply Rem.over) (Src.own hob4.lens (by (refine rows_one1 ?_; (repeat (first | exact flat_nil | refine flat_id ?_ | (refine flat_one ?_ ?_; rfl))); done)) rfl (by repeat first | exact List.Mem.head _ | refine List.Mem.tail _ ?_ | refine List.mem_append_right _ ?_)) (by (simp; omega)) (by decide) rfl ?_; intro v7 hs6 ho5; obtain ⟨adv7, cpv7, rfl⟩ := ho5.val
   refine Y_assign ?_
   refine XD_end ?_
   refine K_out ?_
   refine K_then ?_
   refine C_region (l := [0, 1]) rfl ?_
   refine X_ari rfl rfl rfl rfl rfl (by exact wrap_in (by decide) (by omega)) rfl ?_
   refine Y_move ?_
   refine XD_end ?_
   refine K_roundO (a' := [(26, _), (7, _)]) (k + 1) (hs6) (.cons (k := 26) rfl (.cons (k := 7) rfl (.cons (k := 25) rfl (.cons (k := 24) rfl (.cons (k := 4) rfl (.cons (k := 0) rfl (.nil))))))) (by exact Mem.le.refl _) (fun w hw => by first | exact hw | exact hw.c) ?_ ?_
   ·refine ⟨_, rfl, rfl, by omega, OSl.as9 ho5 ?_⟩
    rw [← had, addrs_step (by omega) hi0 hil, had, List.map_append]; rfl
   ·omega
  ·replace hc2 := dF hc2
   refine C_exit ?_
   iterate 2 refine K_exit ?_
   refine K_hit ?_
   refine K_then ?_
   refine Y_pk [7, 4] ?_
   refine C_seq ?_
   obtain rfl : k = c_l.length - 1 := by omega
   rw [List.take_of_length_le (by omega)] at ho
   refine C_regionW (l := [0, 1]) [1] rfl ?_
   refine Y_move ?_
   refine X_fhW rfl rfl rfl F.ok96 rfl (SortO_ok M1 ad0 (c_l.length - 1) cp0 ad hadl (by omega) h2 ho) (by repeat first | exact Rem.here _ | exact Rem.two | apply Rem.skip | apply Rem.over) (putE_some rfl) ?_
   rintro _ M3 hs9 hm3 ⟨hM3, rfl, l9, hp9, hq9, ho9⟩
   subst M3
   refine XD_end ?_
   refine K_unw ?_
   refine K_then ?_
   refine Y_pk [7, 4] ?_
   refine C_seq ?_
   refine C_region (l := [0, 1]) rfl ?_
   refine Y_move ?_
   refine Y_assign ?_
   refine XD_end ?_
   refine K_then ?_
   refine Y_pk [4] ?_
   refine C_ret ?_
   refine K_end (.inr rfl) (.tmp rfl .nil) (fun w hw => ?_)
   obtain ⟨M9, s9, g1, g2, g3, g4, g5⟩ := OSl.freezeK (f := oneI .i64) (H := (bw, rowO (WorkerV.segs ⟨⟨s_addr, s_epoch, ⟨s_store_a, s_store_c, s_store_l⟩, ⟨s_waits_a, s_waits_c, s_waits_l⟩, s_serial⟩, ⟨l_a, l_c, l_l⟩, r, ⟨o_a, o_c, o_l⟩⟩) 67) :: H) ho9 (hw.c)
   refine ⟨_, M9, [(bw, rowO (WorkerV.segs ⟨⟨s_addr, s_epoch, ⟨s_store_a, s_store_c, s_store_l⟩, ⟨s_waits_a, s_waits_c, s_waits_l⟩, s_serial⟩, ⟨l_a, l_c, l_l⟩, r, ⟨o_a, o_c, o_l⟩⟩) 67)], rfl, hm1.trans g1, g2, rfl, s9, g3, ?_, g5⟩
   rw [g4]
   subst hcl
   subst had
   exact others_sorted hci hr hp9 hq9

end Go.Proofs.YtpkeilhilpogiaaGreat
/-
  One more that waits.
-/
set_option linter.unusedSimpArgs false
set_option linter.unusedVariables false
set_option linter.unnecessarySimpa false
set_option maxRecDepth 8000
set_option maxHeartbeats 1000000
namespace Go.Proofs.YtpkeilhilpogiaaGreat
open Go.Esp
theorem F.ext97 : Ext Tryz.prog 97 (Extern.SlicesOverlaps.overlaps #[24, 24] #[4]) := fun args w => by kernel_rfl

theorem InsertW_nil (M : Mem) (x : WaitV) (bv : Nat) (hv : Hp) (hob : OSl 54 28 (.slice (some ⟨bv, 0, none⟩) 1 1) hv [WaitV.segs x]) : Fh Tryz.prog 59 [.slice none 0 0, .int .i64 ((0 : Nat) : Int), .slice (some ⟨bv, 0, none⟩) 1 1] M hv (fun M' v Hout => M' = M ∧ OSl 54 28 v Hout ([] ++ [WaitV.segs x])) := by
  refine fh_enter Tryz.func59 rfl Tryz.ntmps59 rfl ?_; intro H
  refine C_seq ?_
  refine C_region (l := [0]) rfl ?_
  refine Y_assign ?_
  refine XD_end ?_
  refine K_then ?_
  refine C_seq ?_
  refine C_region (l := [0, 1, 2]) rfl ?_
  iterate 2 refine Y_move ?_
  refine X_slice rfl rfl rfl (.some (k := 0) rfl rfl) .none .none F.elem24 (by simp) (by simp) (by simp) (by simp) rfl rfl ?_
  refine XD_end ?_
  refine K_then ?_
  refine Y_pk [6, 0, 1, 2] ?_
  refine C_seq ?_
  refine C_region (l := [0, 1, 2]) rfl ?_
  refine Y_move ?_
  refine Y_len_sl F.elem24 ?_
  refine Y_assign ?_
  refine XD_end ?_
  refine K_then ?_
  refine Y_pk [7, 6, 0, 1, 2] ?_
  iterate 2 refine C_seq ?_
  refine C_region (l := [0, 1]) rfl ?_
  refine Y_move ?_
  refine Y_cmp ?_
  refine XD_end ?_
  refine K_then ?_
  refine Y_pk [16, 7, 6, 0, 1, 2] ?_
  refine C_cond rfl (fun hc1 => ?_) (fun hc1 => ?_)
  ·replace hc1 := dT hc1
   (exfalso; omega)
  ·replace hc1 := dF hc1
   refine C_skip ?_
   refine K_then ?_
   refine Y_pk [7, 6, 0, 1, 2] ?_
   refine C_seq ?_
   refine C_region (l := [0, 1, 2]) rfl ?_
   refine Y_move ?_
   refine Y_len_sl F.elem24 ?_
   refine Y_assign ?_
   refine XD_end ?_
   refine K_then ?_
   refine Y_pk [8, 7, 6, 0, 1, 2] ?_
   iterate 2 refine C_seq ?_
   refine C_region (l := [0, 1, 2]) rfl ?_
   iterate 2 refine Y_move ?_
   refine Y_cmp ?_
   refine XD_end ?_
   refine K_then ?_
   refine Y_pk [22, 8, 7, 6, 0, 1, 2] ?_
   refine C_cond rfl (fun hc2 => ?_) (fun hc2 => ?_)
   ·replace hc2 := dT hc2
    simp only [AnswerV.eta, MarkV.eta, CellV.eta, HeldV.eta, WaitV.eta, ServerV.eta, PeerV.eta, OpV.eta, ParcelV.eta, PostV.eta, WorkerV.eta] at hc2
    refine C_seq ?_
    refine C_region (l := [0, 1, 2, 3]) rfl ?_
    iterate 2 refine Y_move ?_
    refine X_append (m := 1000000) rfl rfl rfl rfl rfl F.elem24 F.zero54 (by exact agg_size rfl) rfl (by exact OSl.nil) (by repeat first | exact Rem.here _ | exact Rem.two | apply Rem.skip | apply Rem.over) (OSl.srcAll hob (by repeat first | exact Rem.here _ | exact Rem.two | apply Rem.skip | apply Rem.over) (by intro u hu; exact rows_one WaitV.flat [x] u (by simpa using hu))) (by (simp; done)) (by decide) rfl ?_; intro v5 hs4 ho3; obtain ⟨adv5, cpv5, rfl⟩ := ho3.val
    refine Y_assign ?_
    refine XD_end ?_
    refine K_then ?_
    refine Y_pk [6, 8, 7, 0, 1, 2] ?_
    refine C_ret ?_
    refine K_ret ?_
    refine K_end (.inr rfl) (.tmp rfl .nil) (fun w hw => ?_)
    exact ⟨_, M, hs4, rfl, Mem.le.refl M, hw.c, rfl, ho3⟩
   ·replace hc2 := dF hc2
    simp only [AnswerV.eta, MarkV.eta, CellV.eta, HeldV.eta, WaitV.eta, ServerV.eta, PeerV.eta, OpV.eta, ParcelV.eta, PostV.eta, WorkerV.eta] at hc2
    (exfalso; simp [eqX] at hc2; done)

theorem InsertW_some (M : Mem) (b : Nat) (c : Nat) (l : List WaitV) (hs : Hp) (i : Nat) (hi : i ≤ l.length) (x : WaitV) (bv : Nat) (hv : Hp) (hob : OSl 54 28 (.slice (some ⟨bv, 0, none⟩) 1 1) hv [WaitV.segs x]) (hb : l.length ≤ 1000000) (ho : OSl 54 28 (.slice (some ⟨b, 0, none⟩) l.length c) hs (l.map WaitV.segs)) : Fh Tryz.prog 59 [.slice (some ⟨b, 0, none⟩) l.length c, .int .i64 (i : Int), .slice (some ⟨bv, 0, none⟩) 1 1] M (hs ++ hv) (fun M' v Hout => M' = M ∧ OSl 54 28 v Hout ((insL l i x).map WaitV.segs)) := by
  have hcc := ho.caps
  simp only [List.length_map] at hcc
  have hob9 := hob
  have hom : OSl 54 28 (.slice (some ⟨b, 0, none⟩) (l.map WaitV.segs).length c) hs (l.map WaitV.segs) := by rw [List.length_map]; exact ho
  obtain ⟨cv, rfl, _⟩ := hob9.inv
  refine fh_enter Tryz.func59 rfl Tryz.ntmps59 rfl ?_; intro H
  rw [List.append_assoc]
  refine C_seq ?_
  refine C_region (l := [0]) rfl ?_
  refine Y_assign ?_
  refine XD_end ?_
  refine K_then ?_
  refine C_seq ?_
  refine C_region (l := [0, 1, 2]) rfl ?_
  iterate 2 refine Y_move ?_
  refine X_slice rfl rfl rfl (.some (k := i) rfl rfl) .none .none F.elem24 (by simp) (by simp only [Option.getD_some, Option.getD_none]; omega) (by simp only [Option.getD_some, Option.getD_none]; omega) (by simp) rfl rfl ?_
  refine XD_end ?_
  refine K_then ?_
  refine Y_pk [6, 0, 1, 2] ?_
  refine C_seq ?_
  refine C_region (l := [0, 1, 2]) rfl ?_
  refine Y_move ?_
  refine Y_len_sl F.elem24 ?_
  refine Y_assign ?_
  refine XD_end ?_
  refine K_then ?_
  refine Y_pk [7, 6, 0, 1, 2] ?_
  iterate 2 refine C_seq ?_
  refine C_region (l := [0, 1]) rfl ?_
  refine Y_move ?_
  refine Y_cmp ?_
  refine XD_end ?_
  refine K_then ?_
  refine Y_pk [16, 7, 6, 0, 1, 2] ?_
  refine C_cond rfl (fun hc1 => ?_) (fun hc1 => ?_)
  ·replace hc1 := dT hc1
   (exfalso; omega)
  ·replace hc1 := dF hc1
   refine C_skip ?_
   refine K_then ?_
   refine Y_pk [7, 6, 0, 1, 2] ?_
   refine C_seq ?_
   refine C_region (l := [0, 1, 2]) rfl ?_
   refine Y_move ?_
   refine Y_len_sl F.elem24 ?_
   refine Y_assign ?_
   refine XD_end ?_
   refine K_then ?_
   refine Y_pk [8, 7, 6, 0, 1, 2] ?_
   iterate 2 refine C_seq ?_
   refine C_region (l := [0, 1, 2]) rfl ?_
   iterate 2 refine Y_move ?_
   refine Y_cmp ?_
   refine XD_end ?_
   refine K_then ?_
   refine Y_pk [22, 8, 7, 6, 0, 1, 2] ?_
   refine C_cond rfl (fun hc2 => ?_) (fun hc2 => ?_)
   ·replace hc2 := dT hc2
    refine C_seq ?_
    refine C_region (l := [0, 1, 2, 3]) rfl ?_
    iterate 2 refine Y_move ?_
    refine X_append (m := 1000001) rfl rfl rfl rfl rfl F.elem24 F.zero54 (by exact agg_size rfl) rfl (by assumption) (by repeat first | exact Rem.here _ | exact Rem.two | apply Rem.skip | apply Rem.over) (OSl.srcAll hob (by repeat first | exact Rem.here _ | exact Rem.two | apply Rem.skip | apply Rem.over) (by intro u hu; exact rows_one WaitV.flat [x] u (by simpa using hu))) (by (simp; omega)) (by decide) rfl ?_; intro v5 hs4 ho3; obtain ⟨adv5, cpv5, rfl⟩ := ho3.val
    refine Y_assign ?_
    refine XD_end ?_
    refine K_then ?_
    refine Y_pk [6, 8, 7, 0, 1, 2] ?_
    refine C_ret ?_
    refine K_ret ?_
    refine K_end (.inr rfl) (.tmp rfl .nil) (fun w hw => ?_)
    obtain rfl : i = l.length := by omega
    exact ⟨_, M, hs4, rfl, Mem.le.refl M, hw.c, rfl, by rw [insL_end, List.map_append]; exact ho3⟩
   ·replace hc2 := dF hc2
    refine C_skip ?_
    refine K_then ?_
    refine Y_pk [8, 7, 6, 0, 1, 2] ?_
    iterate 2 refine C_seq ?_
    refine C_region (l := [0, 1, 2, 3, 4, 5]) rfl ?_
    iterate 2 refine Y_move ?_
    refine X_ari rfl rfl rfl rfl rfl (by exact wrap_in (by decide) (by omega)) rfl ?_
    refine Y_move ?_
    refine X_cap_sl rfl rfl rfl rfl F.elem24 rfl ?_
    refine Y_cmp ?_
    refine XD_end ?_
    refine K_then ?_
    refine Y_pk [31, 8, 7, 6, 0, 1, 2] ?_
    refine C_cond rfl (fun hc6 => ?_) (fun hc6 => ?_)
    ·replace hc6 := dT hc6
     refine C_seq ?_
     refine C_region (l := [0, 1, 2, 3, 4, 5, 6, 7, 8, 9]) rfl ?_
     iterate 2 refine Y_move ?_
     refine X_slice rfl rfl rfl .none (.some (k := i) rfl (by rfl)) .none F.elem24 (by simp) (by simp only [Option.getD_some, Option.getD_none]; omega) (by simp only [Option.getD_some, Option.getD_none]; omega) (by simp) (show pieceV (some ⟨_, 0, none⟩) 28 0 (i) c = .slice (some ⟨_, 0, none⟩) (i) c from pieceV_zero) rfl ?_
     iterate 2 refine Y_move ?_
     refine X_ari rfl rfl rfl rfl rfl (by exact wrap_in (by decide) (by omega)) rfl ?_
     refine Y_move ?_
     refine X_ari rfl rfl rfl rfl rfl (by exact wrap_in (by decide) (by omega)) rfl ?_
     rw [show (l.length : Int) + ((1 : Nat) : Int) - (i : Int) = ((l.length + 1 - i : Nat) : Int) by omega]
     refine X_appendZO (j := i) (k := l.length + 1 - i) rfl rfl rfl rfl F.elem24 Tryz.underlying3 F.zero54 (by exact agg_size rfl) rfl ho (by repeat first | exact Rem.here _ | exact Rem.two | apply Rem.skip | apply Rem.over) (by rw [List.length_map]; omega) (by omega) (by omega) (by omega) (Nat.le_trans (Nat.mul_le_mul_right _ (show i + (l.length + 1 - i) ≤ 1000001 by omega)) (by decide)) rfl ?_; intro b9 c9 hs9 zs9 hz9 ho9
     rw [show i + (l.length + 1 - i) = l.length + 1 by omega] at ho9 ⊢
     have hn9 : ((l.map WaitV.segs).take i ++ zs9).length = l.length + 1 := by simp [hz9]; omega
     have hc9 := ho9.caps
     refine Y_assign ?_
     refine XD_end ?_
     refine K_then ?_
     refine Y_pk [9, 8, 7, 6, 0, 1, 2] ?_
     refine C_seq ?_
     refine C_region (l := [0, 1, 2, 3, 4]) rfl ?_
     iterate 2 refine Y_move ?_
     refine X_slice rfl rfl rfl (.some (k := i) rfl (by rfl)) .none .none F.elem24 (by simp) (by simp only [Option.getD_some, Option.getD_none]; omega) (by simp only [Option.getD_some, Option.getD_none]; omega) (by simp) (show pieceV (some ⟨_, 0, none⟩) 28 (i) (l.length + 1) (c9) = .slice (some ⟨_, 0 + (i) * 28, none⟩) (l.length + 1 - (i)) (c9 - (i)) from pieceV_in (by omega)) rfl ?_
     refine Y_move ?_
     rw [Nat.zero_add]
     refine X_copyP (k := i) (news := [WaitV.segs x]) rfl rfl rfl rfl rfl F.elem24 rfl (by rw [hn9]; omega) ho9 (by repeat first | exact Rem.here _ | exact Rem.two | apply Rem.skip | apply Rem.over) (OSl.srcAll hob (by repeat first | exact Rem.here _ | exact Rem.two | apply Rem.skip | apply Rem.over) (by intro u hu; exact rows_one WaitV.flat [x] u (by simpa using hu))) (by show 1 = min 1 (l.length + 1 - i); omega) rfl ?_; intro hs10 ho10
     rw [hn9] at ho10
     refine XD_end ?_
     refine K_then ?_
     refine Y_pk [9, 8, 7, 6, 0, 1, 2] ?_
     refine C_seq ?_
     refine C_region_any (l := [0, 1, 2, 3, 4, 5, 6, 7, 8]) #[0, 0, 0, 6, 15, 0, 0, 96, 255] _ rfl (by kernel_rfl) (by kernel_rfl) St.drawn (fun _ h => h) ?_
     iterate 3 refine Y_move ?_
     refine X_ari rfl rfl rfl rfl rfl (by exact wrap_in (by decide) (by omega)) rfl ?_
     refine X_slice rfl rfl rfl (.some (k := i + 1) rfl (by rfl)) .none .none F.elem24 (by simp) (by simp only [Option.getD_some, Option.getD_none]; omega) (by simp only [Option.getD_some, Option.getD_none]; omega) (by simp) (show pieceV (some ⟨_, 0, none⟩) 28 (i + 1) (l.length + 1) (c9) = .slice (some ⟨_, 0 + (i + 1) * 28, none⟩) (l.length + 1 - (i + 1)) (c9 - (i + 1)) from pieceV_in (by omega)) rfl ?_
     iterate 2 refine Y_move ?_
     refine X_slice rfl rfl rfl (.some (k := i) rfl (by rfl)) .none .none F.elem24 (by simp) (by simp only [Option.getD_some, Option.getD_none]; omega) (by simp only [Option.getD_some, Option.getD_none]; omega) (by simp) (show pieceV (some ⟨_, 0, none⟩) 28 (i) (l.length) (c) = .slice (some ⟨_, 0 + (i) * 28, none⟩) (l.length - (i)) (c - (i)) from pieceV_in (by omega)) rfl ?_
     rw [Nat.zero_add, Nat.zero_add]
     have hn10 : (((l.map WaitV.segs).take i ++ zs9).take i ++ [WaitV.segs x] ++ ((l.map WaitV.segs).take i ++ zs9).drop (i + [WaitV.segs x].length)).length = l.length + 1 := by simp only [List.length_append, List.length_take, List.length_drop, hn9, List.length_cons, List.length_nil]; omega
     refine X_copyP (k := i + 1) (news := (l.map WaitV.segs).drop i) rfl rfl rfl rfl rfl F.elem24 rfl (by rw [hn10]; omega) ho10 (by repeat first | exact Rem.here _ | exact Rem.two | apply Rem.skip | apply Rem.over) (by rw [List.length_drop]; exact hom.src (by repeat first | exact Rem.here _ | exact Rem.two | apply Rem.skip | apply Rem.over) (by intro u hu; exact rows_one WaitV.flat l u hu)) (by simp only [List.length_drop, List.length_map]; omega) rfl ?_; intro hs11 ho11
     rw [hn10] at ho11
     rw [show i + [WaitV.segs x].length = i + 1 from rfl, ins_grow (by rw [List.length_map]; omega) (by rw [List.length_map]; exact hz9)] at ho11
     refine XD_end ?_
     refine K_then ?_
     refine Y_pk [9, 8, 7, 6, 0, 1, 2] ?_
     refine C_seq ?_
     refine C_region (l := [0, 1]) rfl ?_
     refine Y_move ?_
     refine Y_assign ?_
     refine XD_end ?_
     refine K_then ?_
     refine Y_pk [6, 8, 7, 0, 1, 2] ?_
     refine C_ret ?_
     refine K_ret ?_
     refine K_end (.inr rfl) (.tmp rfl .nil) (fun w hw => ?_)
     exact ⟨_, M, hs11, rfl, Mem.le.refl M, hw.c, rfl, by rw [insL_map]; exact ho11⟩
    ·replace hc6 := dF hc6
     refine C_skip ?_
     refine K_then ?_
     refine Y_pk [8, 7, 6, 0, 1, 2] ?_
     refine C_seq ?_
     refine C_region (l := [0, 1, 2, 3, 4, 5]) rfl ?_
     iterate 3 refine Y_move ?_
     refine X_ari rfl rfl rfl rfl rfl (by exact wrap_in (by decide) (by omega)) rfl ?_
     refine X_slice rfl rfl rfl .none (.some (k := l.length + 1) rfl (by rfl)) .none F.elem24 (by simp) (by simp only [Option.getD_some, Option.getD_none]; omega) (by simp only [Option.getD_some, Option.getD_none]; omega) (by simp) (show pieceV (some ⟨_, 0, none⟩) 28 0 (l.length + 1) c = .slice (some ⟨_, 0, none⟩) (l.length + 1) c from pieceV_zero) rfl ?_
     refine Y_assign ?_
     refine XD_end ?_
     refine K_then ?_
     refine Y_pk [0, 8, 7, 6, 1, 2] ?_
     iterate 2 refine C_seq ?_
     refine C_region (l := [0, 1, 2, 3, 4, 5, 6, 7]) rfl ?_
     obtain ⟨ext, hext, ho13⟩ := OSl.extend (m := 1) (show OSl 54 28 (.slice (some ⟨b, 0, none⟩) (l.map WaitV.segs).length c) hs (l.map WaitV.segs) by rw [List.length_map]; exact ho) (by rw [List.length_map]; omega)
     rw [List.length_map] at ho13
     iterate 4 refine Y_move ?_
     refine X_ari rfl rfl rfl rfl rfl (by exact wrap_in (by decide) (by omega)) rfl ?_
     refine X_slice rfl rfl rfl (.some (k := i + 1) rfl (by rfl)) .none .none F.elem24 (by simp) (by simp only [Option.getD_some, Option.getD_none]; omega) (by simp only [Option.getD_some, Option.getD_none]; omega) (by simp) (show pieceV (some ⟨_, 0, none⟩) 28 (i + 1) (l.length + 1) (c) = .slice (some ⟨_, 0 + (i + 1) * 28, none⟩) (l.length + 1 - (i + 1)) (c - (i + 1)) from pieceV_in (by omega)) rfl ?_
     refine X_ext rfl rfl F.ext97 rfl (fun w hw => run_apart (tR := 4) F.elem24 ho (by repeat first | exact Rem.here _ | exact Rem.two | apply Rem.skip | apply Rem.over) (.head _) (Nat.mul_pos (by omega) (by decide)) hw) rfl ?_
     refine Y_not ?_
     refine XD_end ?_
     refine K_then ?_
     refine Y_pk [68, 0, 8, 7, 6, 1, 2] ?_
     refine C_cond rfl (fun hc7 => ?_) (fun hc7 => ?_)
     ·skip
      refine C_seq ?_
      refine C_region_any (l := [0, 1, 2, 3, 4, 5, 6, 7, 8]) #[0, 0, 0, 6, 15, 0, 0, 96, 255] _ rfl (by kernel_rfl) (by kernel_rfl) St.drawn (fun _ h => h) ?_
      iterate 3 refine Y_move ?_
      refine X_ari rfl rfl rfl rfl rfl (by exact wrap_in (by decide) (by omega)) rfl ?_
      refine X_slice rfl rfl rfl (.some (k := i + 1) rfl (by rfl)) .none .none F.elem24 (by simp) (by simp only [Option.getD_some, Option.getD_none]; omega) (by simp only [Option.getD_some, Option.getD_none]; omega) (by simp) (show pieceV (some ⟨_, 0, none⟩) 28 (i + 1) (l.length + 1) (c) = .slice (some ⟨_, 0 + (i + 1) * 28, none⟩) (l.length + 1 - (i + 1)) (c - (i + 1)) from pieceV_in (by omega)) rfl ?_
      iterate 2 refine Y_move ?_
      refine X_slice rfl rfl rfl (.some (k := i) rfl (by rfl)) .none .none F.elem24 (by simp) (by simp only [Option.getD_some, Option.getD_none]; omega) (by simp only [Option.getD_some, Option.getD_none]; omega) (by simp) (show pieceV (some ⟨_, 0, none⟩) 28 (i) (l.length + 1) (c) = .slice (some ⟨_, 0 + (i) * 28, none⟩) (l.length + 1 - (i)) (c - (i)) from pieceV_in (by omega)) rfl ?_
      rw [Nat.zero_add, Nat.zero_add]
      refine X_copyP (k := i + 1) (news := (l.map WaitV.segs).drop i) rfl rfl rfl rfl rfl F.elem24 rfl (by simp [hext]; omega) ho13 (by repeat first | exact Rem.here _ | exact Rem.two | apply Rem.skip | apply Rem.over) (by rw [List.length_drop]; exact hom.src (by repeat first | exact Rem.here _ | exact Rem.two | apply Rem.skip | apply Rem.over) (by intro u hu; exact rows_one WaitV.flat l u hu)) (by simp only [List.length_drop, List.length_map]; omega) rfl ?_; intro hs15 ho15
      have hn15 : ((l.map WaitV.segs) ++ ext).length = l.length + 1 := by simp [hext]
      rw [hn15] at ho15
      refine XD_end ?_
      refine K_then ?_
      refine Y_pk [0, 8, 7, 6, 1, 2] ?_
      refine C_seq ?_
      refine C_region (l := [0, 1, 2, 3, 4]) rfl ?_
      iterate 2 refine Y_move ?_
      refine X_slice rfl rfl rfl (.some (k := i) rfl (by rfl)) .none .none F.elem24 (by simp) (by simp only [Option.getD_some, Option.getD_none]; omega) (by simp only [Option.getD_some, Option.getD_none]; omega) (by simp) (show pieceV (some ⟨_, 0, none⟩) 28 (i) (l.length + 1) (c) = .slice (some ⟨_, 0 + (i) * 28, none⟩) (l.length + 1 - (i)) (c - (i)) from pieceV_in (by omega)) rfl ?_
      refine Y_move ?_
      rw [Nat.zero_add]
      have hn16 : (((l.map WaitV.segs) ++ ext).take (i + 1) ++ (l.map WaitV.segs).drop i ++ ((l.map WaitV.segs) ++ ext).drop (i + 1 + ((l.map WaitV.segs).drop i).length)).length = l.length + 1 := by simp only [List.length_append, List.length_take, List.length_drop, List.length_map, hext]; omega
      refine X_copyP (k := i) (news := [WaitV.segs x]) rfl rfl rfl rfl rfl F.elem24 rfl (by rw [hn16]; omega) ho15 (by repeat first | exact Rem.here _ | exact Rem.two | apply Rem.skip | apply Rem.over) (OSl.srcAll hob (by repeat first | exact Rem.here _ | exact Rem.two | apply Rem.skip | apply Rem.over) (by intro u hu; exact rows_one WaitV.flat [x] u (by simpa using hu))) (by show 1 = min 1 (l.length + 1 - i); omega) rfl ?_; intro hs16 ho16
      rw [hn16] at ho16
      rw [show i + [WaitV.segs x].length = i + 1 from rfl, ins_room (by rw [List.length_map]; omega) hext] at ho16
      refine XD_end ?_
      refine K_then ?_
      refine Y_pk [0, 8, 7, 6, 1, 2] ?_
      refine C_seq ?_
      refine C_region (l := [0, 1]) rfl ?_
      refine Y_move ?_
      refine Y_assign ?_
      refine XD_end ?_
      refine K_then ?_
      refine Y_pk [6, 0, 8, 7, 1, 2] ?_
      refine C_ret ?_
      refine K_ret ?_
      refine K_end (.inr rfl) (.tmp rfl .nil) (fun w hw => ?_)
      exact ⟨_, M, hs16, rfl, Mem.le.refl M, hw.c, rfl, by rw [insL_map]; exact ho16⟩
     ·skip
      (exfalso; simp [eqX] at hc7; done)

theorem InsertW_ok (M : Mem) (a : Option Addr) (c : Nat) (l : List WaitV) (hs : Hp) (i : Nat) (hi : i ≤ l.length) (x : WaitV) (bv : Nat) (hv : Hp) (hob : OSl 54 28 (.slice (some ⟨bv, 0, none⟩) 1 1) hv [WaitV.segs x]) (hb : l.length ≤ 1000000) (ho : OSl 54 28 (.slice a l.length c) hs (l.map WaitV.segs)) : Fh Tryz.prog 59 [.slice a l.length c, .int .i64 (i : Int), .slice (some ⟨bv, 0, none⟩) 1 1] M (hs ++ hv) (fun M' v Hout => M' = M ∧ OSl 54 28 v Hout ((insL l i x).map WaitV.segs)) := by
  cases a with
  |none =>
   obtain ⟨rfl, rfl, rfl⟩ := ho.noneAll
   obtain rfl : i = 0 := by simpa using hi
   exact InsertW_nil M x bv hv hob
  |some ad =>
   obtain ⟨b, rfl⟩ := ho.someAll
   exact InsertW_some M b c l hs i hi x bv hv hob hb ho

end Go.Proofs.YtpkeilhilpogiaaGreat
/-
  A region's operations, laid out in another order than the text's.
-/
set_option linter.unusedSimpArgs false
set_option linter.unusedVariables false
set_option linter.unnecessarySimpa false
namespace Go.Esp
section
variable {P : Program} {ops : Array Oper} {cl : Nat → Cls} {Q : Exit → Act → World → Prop} {md : Region.Mode}

def okPairP (ops : Array Oper) (cl : Nat → Cls) (B : Array Nat) (x i : Nat) : Bool :=
  !(B.getD x 0).testBit i && (x != i) && ((B.getD i 0).testBit x || (match ops[x]?, ops[i]? with | some ox, some oi => ox.apart ops oi && mayPass (cl x) (cl i) | _, _ => false))

def okListP (ops : Array Oper) (cl : Nat → Cls) (B : Array Nat) : List Nat → Bool
  | [] => true
  | x :: r => r.all (fun i => okPairP ops cl B x i) && okListP ops cl B r

def okRegionP (ops : Array Oper) (cl : Nat → Cls) (B : Array Nat) (l0 : List Nat) : Bool :=
  Region.noSelect ops && okEdges ops B && okListP ops cl B l0 && (List.range ops.size).all (fun i => l0.contains i) && l0.length == ops.size && l0.all (fun i => decide (i < ops.size))

def leftP (l0 : List Nat) (listed : Array Bool) : List Nat := l0.filter fun i => !listed.getD i true

end
end Go.Esp
/-
  A call that turns two heaps of ours, and lays anew what reads lean on.
-/
set_option linter.unusedSimpArgs false
set_option linter.unusedVariables false
set_option linter.unnecessarySimpa false
namespace Go.Esp
section
variable {P : Program} {ops : Array Oper} {Q : Exit → Act → World → Prop} {M M' : Mem} {H H' H0 : Hp} {e : Env}
theorem X_fhW2 {n : Sh} {rest : List Nat} {J : World → Prop} {i : Nat} {dst : Option Tmp} {ty : TypeId} {pos : String} {af : Array Edge} {gd : Option (Nat × Bool)} {f : FuncId} {xs : List Operand} {ats : Array TypeId} {vs : List Value} {Hin Hin2 H1 Hr : Hp} {R : Mem → Value → Hp → Prop} (hi : ops[i]? = some ⟨dst, .call ⟨.value (.func f), xs.toArray, ats⟩, ty, pos, af, gd⟩) (hws : n.wrs.contains i = true) (hg : want ops e gd = some true)
    (hf : okFn P f = true) (hx : evs e xs = some vs) (hc : Fh P f vs M (Hin ++ Hin2) R) (hH : Rem Hin H H1) (hH2 : Rem Hin2 H1 Hr)
    (hd : ∀ a v, Sat n e a → Sat n (putE dst v e) (a.put dst v))
    (hk : ∀ v M' Hout, M.le M' → R M' v Hout → XD P n ops Q rest (St M' (Hout ++ Hr)) ⟨M', Hout ++ Hr⟩ (putE dst v e)) : XD P n ops Q (i :: rest) J ⟨M, H⟩ e := by
  obtain ⟨fn, h1, h2, h3⟩ := okFn_spec hf
  have hP : H.Perm ((Hin ++ Hin2) ++ Hr) := (hH.perm.trans (hH2.perm.append_left Hin)).trans (List.append_assoc _ _ _ ▸ List.Perm.refl _)
  refine X_mutW hi rfl hws hg (fun a w ha hw => does_call h1 h2 h3 (by simpa using ha.evs hx) ?_)
  exact (hc Hr w (hw.perm hP)).mono fun e' w' ⟨v, M', Hout, he, hm, hs, hr⟩ => ⟨v, he, ⟨M', Hout ++ Hr⟩, _, hs, hd a v ha, hk v M' Hout hm hr⟩
/-- A call that turns a heap of ours, picked by what is in it; what reads lean on stays. -/
theorem X_fhC {n : Sh} {rest : List Nat} {i : Nat} {dst : Option Tmp} {ty : TypeId} {pos : String} {af : Array Edge} {gd : Option (Nat × Bool)} {f : FuncId} {xs : List Operand} {ats : Array TypeId} {vs : List Value} {Hin : Hp} (Hr : Hp) {R : Mem → Value → Hp → Prop} {MJ : Mem} {HJ : Hp} (hi : ops[i]? = some ⟨dst, .call ⟨.value (.func f), xs.toArray, ats⟩, ty, pos, af, gd⟩) (hg : want ops e gd = some true)
    (hf : okFn P f = true) (hx : evs e xs = some vs) (hc : Fh P f vs M Hin R) (hH : ∀ x, cnt x (Hin ++ Hr) ≤ cnt x H) (hJ : ∀ v M' Hout w, M.le M' → R M' v Hout → St M' (Hout ++ Hr) w → St MJ HJ w)
    (hd : ∀ a v, Sat n e a → Sat n (putE dst v e) (a.put dst v))
    (hk : ∀ v M' Hout, M.le M' → R M' v Hout → XD P n ops Q rest (St MJ HJ) ⟨M', Hout ++ Hr⟩ (putE dst v e)) : XD P n ops Q (i :: rest) (St MJ HJ) ⟨M, H⟩ e := by
  obtain ⟨fn, h1, h2, h3⟩ := okFn_spec hf
  refine X_effJ hi rfl hg (fun _ a F w ha hw => does_call h1 h2 h3 (by simpa using ha.evs hx) ?_)
  have hH2 : ∀ x, cnt x (Hin ++ (F ++ Hr)) ≤ cnt x (F ++ H) := fun x => by
    have := hH x
    simp only [cnt_app] at this ⊢
    omega
  exact (hc (F ++ Hr) w (St.cnt hw hH2)).mono fun e' w' ⟨v, M', Hout, he, hm, hs, hr⟩ => ⟨v, he, ⟨M', Hout ++ Hr⟩, _, hs.perm0 (swapF F Hout Hr).symm, fun u hu => hJ v M' Hout u hm hr hu, hd a v ha, hk v M' Hout hm hr⟩
end
end Go.Esp
/-
  A worker's heap, and what came of it.
-/
set_option linter.unusedSimpArgs false
set_option linter.unusedVariables false
set_option linter.unnecessarySimpa false
namespace Go.Esp
def WkE (bw tw PO WA : Nat) (l : Sl PeerV) (r : Int) (M : Mem) (Hout : Hp) (X : Srv × List Pst) : Prop :=
  ∃ (s9 : ServerV) (o9 : Sl PostV) (ho9 hw9 : Hp), Hout = (bw, rowO (WorkerV.segs ⟨s9, l, r, o9⟩) tw) :: (ho9 ++ hw9) ∧ OSl PO 37 o9.val ho9 (o9.l.map PostV.segs) ∧ OSl WA 28 s9.waits.val hw9 (s9.waits.l.map WaitV.segs) ∧ s9.pl = X.1 ∧ pstl o9.l = X.2 ∧
    SlK M HeldV.segs 24 s9.store ∧ (∀ h ∈ s9.store.l, HeldV.ok M h) ∧ (∀ w ∈ s9.waits.l, WaitV.ok M w) ∧ ∀ y ∈ o9.l, PostV.ok M y
theorem findX_ok {M : Mem} {l : List HeldV} (h : ∀ y ∈ l, HeldV.ok M y) (k : Plc) : CellV.ok M (findX l k).1 := by
  cases e : (findX l k).2 with
  | true =>
    obtain ⟨y, h1, _, h3⟩ := findX_mem e
    rw [← h3]; exact (h y h1).h0
  | false =>
    have e1 : (findX l k).1 = CellV.zero := by
      unfold findX at e ⊢
      split at e
      · cases e
      · rfl
    rw [e1]; exact CellV.zero_ok M
/-- Copies sent. -/
theorem wk_copies {M : Mem} {ep ser addr v : Int} {key : Plc} {sl : List HeldV} {W : List Wt} {to : List Int} (h : ∀ y ∈ sl, HeldV.ok M y) {o : List PostV}
    (ho : o = to.map (fun t : Int => (⟨t, ⟨3, ep, key, OpV.zero, AnswerV.zero, ser, (findX sl key).1⟩⟩ : PostV))) :
    pstl o = copiesP ⟨addr, ep, pls sl, W, v⟩ key ser to ∧ ∀ y ∈ o, PostV.ok M y := by
  subst ho
  constructor
  · unfold pstl copiesP
    rw [List.map_map]
    refine List.map_congr_left fun t _ => ?_
    show Pst.mk t ⟨3, ep, key, OpV.zero, AnswerV.zero, ser, (findX sl key).1.pl⟩ = Pst.mk t ⟨3, ep, key, OpV.zero, AnswerV.zero, ser, (findP (pls sl) key).1⟩
    have := congrArg Prod.fst (findX_pl sl key)
    simp only at this
    rw [this]
  · intro y hy
    obtain ⟨t, _, rfl⟩ := List.mem_map.1 hy
    exact ⟨⟨findX_ok h key⟩⟩
/-- One more that waits. -/
theorem wait_ins {l : List WaitV} (h : WtsOk (wtl l)) {key : Plc} {k : Nat} (hk : bsAt (wtC key) l = k) {x : WaitV} (hx : x.key = key) : wtl (insL l k x) = waitR (wtl l) x.pl := by
  obtain ⟨h1, h2, h3, _, _⟩ := wt_find h key
  rw [hk] at h1 h2 h3
  have e : x.pl.key = key := hx
  rw [waitR_at (k := k) (by rw [wtl_len]; exact h1) (fun j hj hjk => by rw [wtl_len] at hj; rw [wtl_at hj, e]; exact h2 j hj hjk) (fun hj => by rw [wtl_len] at hj; rw [wtl_at hj, e]; exact h3 hj)]
  unfold insL wtl
  rw [List.map_append, List.map_cons, List.map_take, List.map_drop]
theorem insL_mem {α : Type} {l : List α} {k : Nat} {x y : α} (h : y ∈ insL l k x) : y = x ∨ y ∈ l := by
  unfold insL at h
  rcases List.mem_append.1 h with h | h
  · exact .inr (List.mem_of_mem_take h)
  · rcases List.mem_cons.1 h with h | h
    · exact .inl h
    · exact .inr (List.mem_of_mem_drop h)
/-! Who was told. -/
theorem fm_take {α β : Type} {f : α → Option β} {l : List α} {j : Nat} (hj : j < l.length) : (l.take (j + 1)).filterMap f = (l.take j).filterMap f ++ (f l[j]).toList := by
  rw [List.take_add_one, List.getElem?_eq_getElem hj, List.filterMap_append]
  have e : ∀ x : α, (some x).toList.filterMap f = (f x).toList := fun x => by cases h : f x <;> simp [h]
  rw [e]
def less9 (frm serial : Int) (w : Wt) : Wt := if w.serial = serial then { w with need := lessN w frm } else w
theorem turnW_step {W L : List WaitV} {f : Wt → Wt} {k : Nat} (hw : W.length = L.length) (hk : k < L.length) (h1 : (wtl W).take k = ((wtl L).take k).map f) (h2 : W.drop k = L.drop k) {x : WaitV} (hx : x.pl = f L[k].pl) :
    (W.set k x).length = L.length ∧ (wtl (W.set k x)).take (k + 1) = ((wtl L).take (k + 1)).map f ∧ (W.set k x).drop (k + 1) = L.drop (k + 1) := by
  have h3 : (wtl W).drop k = (wtl L).drop k := by unfold wtl; rw [← List.map_drop, ← List.map_drop, h2]
  have h4 := turn_step (w := wtl W) (l := wtl L) (f := f) (k := k) (by rw [wtl_len, wtl_len]; exact hw) (by rw [wtl_len]; exact hk) h1 h3 (x := x.pl) (by rw [wtl_at hk]; exact hx)
  refine ⟨by simpa using hw, ?_, ?_⟩
  · rw [← h4.2.1]; unfold wtl; rw [List.map_set]
  · rw [List.drop_set_of_lt (by omega)]
    have := congrArg (List.drop 1) h2
    simpa [List.drop_drop] using this
theorem turnW_stay {W L : List WaitV} {f : Wt → Wt} {k : Nat} (hw : W.length = L.length) (hk : k < L.length) (h1 : (wtl W).take k = ((wtl L).take k).map f) (h2 : W.drop k = L.drop k) (hx : L[k].pl = f L[k].pl) :
    (wtl W).take (k + 1) = ((wtl L).take (k + 1)).map f ∧ W.drop (k + 1) = L.drop (k + 1) := by
  have h3 : (wtl W).drop k = (wtl L).drop k := by unfold wtl; rw [← List.map_drop, ← List.map_drop, h2]
  have h4 := turn_stay (w := wtl W) (l := wtl L) (f := f) (k := k) (by rw [wtl_len, wtl_len]; exact hw) (by rw [wtl_len]; exact hk) h1 h3 (by rw [wtl_at hk]; exact hx)
  refine ⟨h4.1, ?_⟩
  have := congrArg (List.drop 1) h2
  simpa [List.drop_drop] using this
theorem less_kept {frm serial : Int} : ∀ {l : List WaitV}, (wtl (kept (goneW frm serial) l)).map (less9 frm serial) = (wtl l).filterMap (stays1 frm serial)
  | [] => rfl
  | w :: l => by
    have ih := less_kept (frm := frm) (serial := serial) (l := l)
    show _ = (w.pl :: wtl l).filterMap _
    rw [List.filterMap_cons, ← ih]
    unfold kept
    rw [List.filter_cons]
    by_cases h : w.serial = serial
    · by_cases h2 : lessN w.pl frm = []
      · have e1 : goneW frm serial w = true := decide_eq_true ⟨h, h2⟩
        have e2 : stays1 frm serial w.pl = none := by unfold stays1; rw [if_neg (fun e => e h), if_pos h2]
        rw [e1, e2]; rfl
      · have e1 : goneW frm serial w = false := decide_eq_false (fun e => h2 e.2)
        have e2 : stays1 frm serial w.pl = some { w.pl with need := lessN w.pl frm } := by unfold stays1; rw [if_neg (fun e => e h), if_neg h2]
        have e3 : less9 frm serial w.pl = { w.pl with need := lessN w.pl frm } := if_pos h
        rw [e1, e2]
        show less9 frm serial w.pl :: _ = _
        rw [e3]; rfl
    · have e1 : goneW frm serial w = false := decide_eq_false (fun e => h e.1)
      have e2 : stays1 frm serial w.pl = some w.pl := if_pos h
      have e3 : less9 frm serial w.pl = w.pl := if_neg h
      rw [e1, e2]
      show less9 frm serial w.pl :: _ = _
      rw [e3]; rfl
theorem kept_mem {α : Type} {p : α → Bool} {l : List α} {x : α} (h : x ∈ kept p l) : x ∈ l := (List.mem_filter.1 h).1
theorem kept_le {α : Type} {p : α → Bool} {l : List α} : (kept p l).length ≤ l.length := List.length_filter_le _ _
theorem doneV_ok {M : Mem} {ep frm serial : Int} {l : List WaitV} : ∀ y ∈ l.filterMap (doneV ep frm serial), PostV.ok M y := by
  intro y hy
  obtain ⟨w, _, h⟩ := List.mem_filterMap.1 hy
  unfold doneV at h
  split at h
  · cases h; exact ⟨⟨CellV.zero_ok _⟩⟩
  · cases h
end Go.Esp
/-
  A request.
-/
set_option linter.unusedSimpArgs false
set_option linter.unusedVariables false
set_option linter.unnecessarySimpa false
set_option maxRecDepth 8000
set_option maxHeartbeats 1000000
namespace Go.Proofs.YtpkeilhilpogiaaGreat
open Go.Esp
theorem F.ok52 : okFn Tryz.prog 52 = true := by kernel_rfl
theorem F.ok53 : okFn Tryz.prog 53 = true := by kernel_rfl
theorem F.ok55 : okFn Tryz.prog 55 = true := by kernel_rfl
theorem F.ok56 : okFn Tryz.prog 56 = true := by kernel_rfl
theorem F.ok57 : okFn Tryz.prog 57 = true := by kernel_rfl
theorem F.ok58 : okFn Tryz.prog 58 = true := by kernel_rfl
theorem F.ok59 : okFn Tryz.prog 59 = true := by kernel_rfl

theorem request_ok (M : Mem) (bw : Nat) (s_addr s_epoch s_serial r : Int) (s_store_a s_waits_a l_a : Option Addr) (s_store_c s_waits_c l_c : Nat) (s_store_l : List HeldV) (s_waits_l : List WaitV) (l_l : List PeerV) (hw0 : Hp) (hW : OSl 54 28 (.slice s_waits_a s_waits_l.length s_waits_c) hw0 (s_waits_l.map WaitV.segs)) (hLw : s_waits_l.length ≤ 1000) (okw : ∀ x ∈ s_waits_l, WaitV.ok M x) (k_st : SlK M HeldV.segs 24 ⟨s_store_a, s_store_c, s_store_l⟩) (hsto : ∀ y ∈ s_store_l, HeldV.ok M y) (k_l : SlK M PeerV.segs 21 ⟨l_a, l_c, l_l⟩) (hci : IsCircle l_l) (hr : 1 ≤ r ∧ r ≤ 8) (hsv : IsSrv (ServerV.pl ⟨s_addr, s_epoch, ⟨s_store_a, s_store_c, s_store_l⟩, ⟨s_waits_a, s_waits_c, s_waits_l⟩, s_serial⟩)) (p : ParcelV) (hop : IsOp p.op) : Fh Tryz.prog 25 [.pointer (some ⟨bw, 0, none⟩), aggV [idSeg p.key], p.op.enc] M ((bw, rowO (WorkerV.segs ⟨⟨s_addr, s_epoch, ⟨s_store_a, s_store_c, s_store_l⟩, ⟨s_waits_a, s_waits_c, s_waits_l⟩, s_serial⟩, ⟨l_a, l_c, l_l⟩, r, ⟨none, 0, []⟩⟩) 67) :: hw0) (fun M' v Hout => v = .tuple #[] ∧ WkE bw 67 51 54 ⟨l_a, l_c, l_l⟩ r M' Hout (requestR (ServerV.pl ⟨s_addr, s_epoch, ⟨s_store_a, s_store_c, s_store_l⟩, ⟨s_waits_a, s_waits_c, s_waits_l⟩, s_serial⟩) l_l r p.pl)) := by
  obtain ⟨p_kind, p_epoch, p_key, ⟨p_op_client, p_op_req, p_op_kind, p_op_version, p_op_val⟩, ⟨p_answer_code, p_answer_version, p_answer_has, p_answer_val⟩, p_serial, ⟨p_cell_version, p_cell_has, p_cell_val, ⟨p_cell_marks_a, p_cell_marks_c, p_cell_marks_l⟩⟩⟩ := p
  simp only at hop
  obtain ⟨o9, hog⟩ : ∃ o, ownerI l_l p_key = o := ⟨_, rfl⟩
  have ho9 : o9 < l_l.length := by rw [← hog]; exact ownerI_lt (by have := hci.1; omega)
  have hcl : 0 ≤ p_op_client ∧ p_op_client ≤ 63 := hop.1
  have s_l := k_l.h1
  simp only at s_l
  have n_l : (l_l.map PeerV.segs).length = l_l.length := List.length_map ..
  show Fh _ _ _ _ _ (fun M' v Hout => v = .tuple #[] ∧ WkE bw 67 51 54 ⟨l_a, l_c, l_l⟩ r M' Hout (requestR (ServerV.pl ⟨s_addr, s_epoch, ⟨s_store_a, s_store_c, s_store_l⟩, ⟨s_waits_a, s_waits_c, s_waits_l⟩, s_serial⟩) l_l r (ParcelV.pl ⟨p_kind, p_epoch, p_key, ⟨p_op_client, p_op_req, p_op_kind, p_op_version, p_op_val⟩, ⟨p_answer_code, p_answer_version, p_answer_has, p_answer_val⟩, p_serial, ⟨p_cell_version, p_cell_has, p_cell_val, ⟨p_cell_marks_a, p_cell_marks_c, p_cell_marks_l⟩⟩⟩)))
  refine fh_enterF (fun H => (bw, rowO (WorkerV.segs ⟨⟨s_addr, s_epoch, ⟨s_store_a, s_store_c, s_store_l⟩, ⟨s_waits_a, s_waits_c, s_waits_l⟩, s_serial⟩, ⟨l_a, l_c, l_l⟩, r, ⟨none, 0, []⟩⟩) 67) :: (hw0 ++ H)) (fun _ => by simp only [List.append_assoc, List.cons_append, List.nil_append]) Tryz.func25 rfl Tryz.ntmps25 rfl ?_; intro H
  refine C_seq ?_
  refine C_region (l := [0, 1]) rfl ?_
  refine Y_box ?_; intro b1
  refine Y_box ?_; intro b2
  refine XD_end ?_
  refine K_then ?_
  refine Y_pk [5, 4, 0] ?_
  refine C_seq ?_
  refine C_region_any (l := [0, 1, 2, 3, 4, 5, 6, 7, 8, 9, 10]) #[0, 1, 3, 7, 0, 31, 63, 127, 127, 255, 1023] _ rfl (by kernel_rfl) (by kernel_rfl) St.drawn (fun _ h => h) ?_
  refine Y_move ?_
  refine Y_nilCheck ?_
  refine Y_fieldAddr F.foff67_1 ?_
  refine Y_load F.lay27 ?_
  refine Y_load F.lay29 ?_
  refine X_fs rfl rfl F.ok52 rfl (Owner_ok _ ⟨l_a, l_c, l_l⟩ p_key k_l) rfl ?_
  rintro _ hv
  replace hv : _ = ofII (ownerR l_l p_key) := hv
  rw [show ownerR l_l p_key = (((o9 : Nat) : Int), 0) from by unfold ownerR; rw [if_pos hci, hog]] at hv
  subst hv
  refine Y_move ?_
  iterate 2 refine Y_extract ?_
  iterate 2 refine Y_assign ?_
  refine XD_end ?_
  refine K_then ?_
  refine Y_pk [6, 5, 4, 0] ?_
  refine C_seq ?_
  refine C_region (l := [0, 1, 2, 3, 4, 5, 6, 7]) rfl ?_
  refine Y_move ?_
  refine Y_load F.lay29 ?_
  refine X_fo rfl rfl F.ok53 rfl (find_ok9 M bw s_addr s_epoch s_serial r s_store_a s_waits_a l_a none s_store_c s_waits_c l_c 0 s_store_l s_waits_l l_l [] hw0 hW (by omega) okw hsv.1 p_key) (by repeat first | exact Rem.here _ | exact Rem.two | apply Rem.skip | apply Rem.over) (putE_some rfl) ?_
  rintro _ MX hmX ⟨hMX, rfl⟩
  subst MX
  clear hmX
  obtain ⟨kk, hkk⟩ : ∃ k, bsAt (wtC p_key) s_waits_l = k := ⟨_, rfl⟩
  obtain ⟨bi, hbi⟩ : ∃ b, bsIs (wtC p_key) s_waits_l = b := ⟨_, rfl⟩
  have hfw := wt_find (l := s_waits_l) hsv.1 p_key
  rw [hkk, hbi] at hfw
  rw [hkk, hbi]
  obtain ⟨hf1, hf2, hf3, hf4, hf5⟩ := hfw
  refine Y_move ?_
  iterate 2 refine Y_extract ?_
  iterate 2 refine Y_assign ?_
  refine XD_end ?_
  refine K_then ?_
  refine Y_pk [9, 8, 6, 5, 4, 0] ?_
  refine C_seq ?_
  refine C_block ?_
  refine C_seq ?_
  refine C_region_any (l := [0, 1, 2, 3, 4, 5, 6, 7, 8, 9, 10, 11, 12, 13, 14]) #[0, 1, 3, 7, 0, 31, 63, 127, 0, 256, 768, 1792, 3840, 8191, 16383] _ rfl (by kernel_rfl) (by kernel_rfl) St.drawn (fun _ h => h) ?_
  refine Y_move ?_
  refine Y_nilCheck ?_
  refine Y_fieldAddr F.foff67_1 ?_
  refine Y_load F.lay27 ?_
  refine Y_move ?_
  refine X_indexAddr rfl rfl rfl rfl F.elem27 (by rfl) (by omega) (by exact SlM.plain (by assumption) (by (simp; omega))) rfl ?_
  refine X_fieldAddr_el rfl rfl rfl (by exact SlM.plain (by assumption) (by (simp; omega))) F.foff80_0 rfl ?_
  refine X_load_el rfl rfl rfl (by assumption) (by exact row_map (by omega)) F.lay3 rfl rfl rfl ?_
  refine Y_move ?_
  refine Y_nilCheck ?_
  refine Y_fieldAddr F.foff67_0 ?_
  refine Y_fieldAddr F.foff26_0 ?_
  refine Y_load F.lay3 ?_
  refine Y_cmp ?_
  refine Y_assign ?_
  refine XD_end ?_
  refine K_then ?_
  refine Y_pk [32, 9, 8, 5, 4, 0] ?_
  refine C_cond rfl (fun hc3 => ?_) (fun hc3 => ?_)
  ·replace hc3 := nT hc3
   simp only [List.get_eq_getElem] at hc3
   refine C_seq ?_
   refine C_regionW (l := [0, 1, 2, 3, 4, 5, 6]) [6] rfl ?_
   refine Y_move ?_
   refine Y_fieldAddr F.foff31_0 ?_
   refine Y_load F.lay3 ?_
   refine Y_fieldAddr F.foff31_1 ?_
   refine Y_load F.lay22 ?_
   refine X_build rfl rfl F.bld34 (.cons rfl (by constructor) .nil) rfl rfl ?_
   refine X_fhW rfl rfl rfl F.ok54 rfl (reply_ok M bw s_addr s_epoch s_serial r s_store_a s_waits_a l_a none s_store_c s_waits_c l_c 0 s_store_l s_waits_l l_l [] [] OSl.nil (by show 0 ≤ 90000; omega) p_op_client p_op_req ⟨7, 0, false, ⟨#[]⟩⟩ hcl) (by repeat first | exact Rem.here _ | exact Rem.two | apply Rem.skip | apply Rem.over) (putE_some rfl) ?_
   rintro _ MX hsX hmX ⟨hMX, rfl, ⟨o2_a, o2_c, o2_l⟩, ho2, rfl, hO2, ho2l⟩
   subst MX
   clear hmX
   simp only at ho2l hO2
   rw [List.nil_append] at ho2l
   simp only [List.append_assoc, List.cons_append, List.nil_append]
   refine XD_end ?_
   refine K_unw ?_
   refine K_then ?_
   refine Y_pk [8, 5, 4, 0] ?_
   refine C_ret ?_
   refine K_retB ?_
   refine K_ret ?_
   refine K_end (.inr rfl) (.nil) (fun w hw => ?_)
   have hreq : requestR (ServerV.pl ⟨s_addr, s_epoch, ⟨s_store_a, s_store_c, s_store_l⟩, ⟨s_waits_a, s_waits_c, s_waits_l⟩, s_serial⟩) l_l r (ParcelV.pl ⟨p_kind, p_epoch, p_key, ⟨p_op_client, p_op_req, p_op_kind, p_op_version, p_op_val⟩, ⟨p_answer_code, p_answer_version, p_answer_has, p_answer_val⟩, p_serial, ⟨p_cell_version, p_cell_has, p_cell_val, ⟨p_cell_marks_a, p_cell_marks_c, p_cell_marks_l⟩⟩⟩) = ((ServerV.pl ⟨s_addr, s_epoch, ⟨s_store_a, s_store_c, s_store_l⟩, ⟨s_waits_a, s_waits_c, s_waits_l⟩, s_serial⟩), [replyR (ServerV.pl ⟨s_addr, s_epoch, ⟨s_store_a, s_store_c, s_store_l⟩, ⟨s_waits_a, s_waits_c, s_waits_l⟩, s_serial⟩) p_op_client p_op_req ⟨7, 0, false, ⟨#[]⟩⟩]) := req_none (s := ServerV.pl ⟨s_addr, s_epoch, ⟨s_store_a, s_store_c, s_store_l⟩, ⟨s_waits_a, s_waits_c, s_waits_l⟩, s_serial⟩) (l := l_l) (r := r) (p := ParcelV.pl ⟨p_kind, p_epoch, p_key, ⟨p_op_client, p_op_req, p_op_kind, p_op_version, p_op_val⟩, ⟨p_answer_code, p_answer_version, p_answer_has, p_answer_val⟩, p_serial, ⟨p_cell_version, p_cell_has, p_cell_val, ⟨p_cell_marks_a, p_cell_marks_c, p_cell_marks_l⟩⟩⟩) (by show (l_l.getD (ownerI l_l p_key) ⟨0, 0⟩).addr ≠ s_addr; rw [hog, List.getD_eq_getElem?_getD, List.getElem?_eq_getElem ho9]; show l_l[o9].addr ≠ s_addr; first | assumption | omega)
   refine ⟨_, M, (bw, rowO (WorkerV.segs ⟨⟨s_addr, s_epoch, ⟨s_store_a, s_store_c, s_store_l⟩, ⟨s_waits_a, s_waits_c, s_waits_l⟩, s_serial⟩, ⟨l_a, l_c, l_l⟩, r, ⟨o2_a, o2_c, o2_l⟩⟩) 67) :: (ho2 ++ hw0), rfl, (Mem.le.refl M), ?_, rfl, ⟨⟨s_addr, s_epoch, ⟨s_store_a, s_store_c, s_store_l⟩, ⟨s_waits_a, s_waits_c, s_waits_l⟩, s_serial⟩, ⟨o2_a, o2_c, o2_l⟩, ho2, hw0, rfl, hO2, hW, (by rw [hreq]), (by rw [ho2l, hreq]; rfl), k_st, hsto, okw, (fun y hy => by rw [ho2l] at hy; obtain rfl := List.mem_singleton.1 hy; exact ⟨⟨CellV.zero_ok _⟩⟩)⟩⟩
   ·simp only [WorkerV.segs, Sl.val] at hw ⊢
    exact hw.c
  ·replace hc3 := nF hc3
   simp only [List.get_eq_getElem] at hc3
   refine C_seq ?_
   refine C_region (l := [0, 1]) rfl ?_
   refine Y_move ?_
   refine Y_assign ?_
   refine XD_end ?_
   refine K_then ?_
   refine Y_pk [54, 8, 5, 4, 0] ?_
   refine C_cond rfl (fun hc4 => ?_) (fun hc4 => ?_)
   ·skip
    refine C_seq ?_
    have hbt : bi = true := by first | assumption | (simp_all; done)
    obtain ⟨hjk, hwkey, hff⟩ := hf4 hbt
    have hWm : OSl 54 28 (.slice s_waits_a (s_waits_l.map WaitV.segs).length s_waits_c) hw0 (s_waits_l.map WaitV.segs) := by rw [List.length_map]; exact hW
    refine C_regionW (l := [0, 1, 2, 3, 4, 5, 6, 7, 8, 9]) [9] rfl ?_
    iterate 2 refine Y_move ?_
    refine Y_nilCheck ?_
    refine Y_fieldAddr F.foff67_0 ?_
    refine Y_fieldAddr F.foff26_3 ?_
    refine Y_load F.lay24 ?_
    refine Y_move ?_
    refine X_indexAddr rfl rfl rfl rfl F.elem24 (by rfl) (by omega) (by exact OSl.plain (by assumption) (by (simp; omega))) rfl ?_
    refine X_load_osl rfl rfl rfl (by assumption) (by repeat first | exact Rem.here _ | exact Rem.two | apply Rem.skip | apply Rem.over) (by exact row_map (by omega)) F.lay54 rfl rfl rfl ?_
    obtain ⟨⟨w_key, w_client, w_req, ⟨w_answer_code, w_answer_version, w_answer_has, w_answer_val⟩, w_serial, ⟨w_need_a, w_need_c, w_need_l⟩⟩, hwk⟩ : ∃ w, s_waits_l[kk]'hjk = w := ⟨_, rfl⟩
    refine XD_is 64 rfl (show _ = aggV (WaitV.segs ⟨w_key, w_client, w_req, ⟨w_answer_code, w_answer_version, w_answer_has, w_answer_val⟩, w_serial, ⟨w_need_a, w_need_c, w_need_l⟩⟩) from by rw [← hwk]; rfl) ?_
    have okw9 := okw _ (List.getElem_mem hjk)
    rw [hwk] at okw9 hwkey hff
    have hwo : WtOk (WaitV.pl ⟨w_key, w_client, w_req, ⟨w_answer_code, w_answer_version, w_answer_has, w_answer_val⟩, w_serial, ⟨w_need_a, w_need_c, w_need_l⟩⟩) := by
     have h9 := hsv.1.1 _ (List.mem_map_of_mem (f := WaitV.pl) (List.getElem_mem hjk))
     rw [hwk] at h9; exact h9
    have hnl : w_need_l.length ≤ 1000 := by have h9 := hwo.2.1.2; simp only [WaitV.pl] at h9; omega
    refine X_fhW rfl rfl rfl F.ok55 rfl (copies_ok M bw s_addr s_epoch s_serial r s_store_a s_waits_a l_a none s_store_c s_waits_c l_c 0 s_store_l s_waits_l l_l [] [] OSl.nil (by show 0 ≤ 90000; omega) ⟨w_key, w_client, w_req, ⟨w_answer_code, w_answer_version, w_answer_has, w_answer_val⟩, w_serial, ⟨w_need_a, w_need_c, w_need_l⟩⟩ hnl okw9.h0 k_st hsto) (by repeat first | exact Rem.here _ | exact Rem.two | apply Rem.skip | apply Rem.over) (putE_some rfl) ?_
    rintro _ MX hsX hmX ⟨hMX, rfl, ⟨o2_a, o2_c, o2_l⟩, ho2, rfl, hO2, ho2l⟩
    subst MX
    clear hmX
    simp only at ho2l hO2
    rw [List.nil_append] at ho2l
    simp only [List.append_assoc, List.cons_append, List.nil_append]
    refine XD_end ?_
    refine K_unw ?_
    refine K_then ?_
    refine Y_pk [8, 5, 4, 0] ?_
    refine C_ret ?_
    refine K_retB ?_
    refine K_ret ?_
    refine K_end (.inr rfl) (.nil) (fun w hw => ?_)
    have hcp := wk_copies (ep := s_epoch) (ser := w_serial) (addr := s_addr) (v := s_serial) (key := w_key) (W := wtl s_waits_l) hsto ho2l
    have hwk8 : w_key = p_key := hwkey
    have hreq : requestR (ServerV.pl ⟨s_addr, s_epoch, ⟨s_store_a, s_store_c, s_store_l⟩, ⟨s_waits_a, s_waits_c, s_waits_l⟩, s_serial⟩) l_l r (ParcelV.pl ⟨p_kind, p_epoch, p_key, ⟨p_op_client, p_op_req, p_op_kind, p_op_version, p_op_val⟩, ⟨p_answer_code, p_answer_version, p_answer_has, p_answer_val⟩, p_serial, ⟨p_cell_version, p_cell_has, p_cell_val, ⟨p_cell_marks_a, p_cell_marks_c, p_cell_marks_l⟩⟩⟩) = ((ServerV.pl ⟨s_addr, s_epoch, ⟨s_store_a, s_store_c, s_store_l⟩, ⟨s_waits_a, s_waits_c, s_waits_l⟩, s_serial⟩), copiesP (ServerV.pl ⟨s_addr, s_epoch, ⟨s_store_a, s_store_c, s_store_l⟩, ⟨s_waits_a, s_waits_c, s_waits_l⟩, s_serial⟩) p_key w_serial w_need_l) := req_wait (s := ServerV.pl ⟨s_addr, s_epoch, ⟨s_store_a, s_store_c, s_store_l⟩, ⟨s_waits_a, s_waits_c, s_waits_l⟩, s_serial⟩) (l := l_l) (r := r) (p := ParcelV.pl ⟨p_kind, p_epoch, p_key, ⟨p_op_client, p_op_req, p_op_kind, p_op_version, p_op_val⟩, ⟨p_answer_code, p_answer_version, p_answer_has, p_answer_val⟩, p_serial, ⟨p_cell_version, p_cell_has, p_cell_val, ⟨p_cell_marks_a, p_cell_marks_c, p_cell_marks_l⟩⟩⟩) (by show (l_l.getD (ownerI l_l p_key) ⟨0, 0⟩).addr = s_addr; rw [hog, List.getD_eq_getElem?_getD, List.getElem?_eq_getElem ho9]; show l_l[o9].addr = s_addr; first | assumption | omega) hff
    refine ⟨_, M, (bw, rowO (WorkerV.segs ⟨⟨s_addr, s_epoch, ⟨s_store_a, s_store_c, s_store_l⟩, ⟨s_waits_a, s_waits_c, s_waits_l⟩, s_serial⟩, ⟨l_a, l_c, l_l⟩, r, ⟨o2_a, o2_c, o2_l⟩⟩) 67) :: (ho2 ++ hw0), rfl, (Mem.le.refl M), ?_, rfl, ⟨⟨s_addr, s_epoch, ⟨s_store_a, s_store_c, s_store_l⟩, ⟨s_waits_a, s_waits_c, s_waits_l⟩, s_serial⟩, ⟨o2_a, o2_c, o2_l⟩, ho2, hw0, rfl, hO2, hW, (by rw [hreq]), (by rw [hreq, ← hwk8]; exact hcp.1), k_st, hsto, okw, hcp.2⟩⟩
    ·simp only [WorkerV.segs, Sl.val] at hw ⊢
     exact hw.c
   ·skip
    refine C_skip ?_
    refine K_out ?_
    refine K_then ?_
    refine Y_pk [8, 5, 4, 0] ?_
    refine C_seq ?_
    have hbi9 : bi = false := by first | assumption | (simp_all; done)
    refine C_region_any (l := [0, 1, 2, 3, 4, 5, 6, 7, 8, 9, 10, 11, 12]) #[0, 1, 3, 7, 15, 0, 63, 127, 255, 255, 0, 1535, 4095] _ rfl (by kernel_rfl) (by kernel_rfl) St.drawn (fun _ h => h) ?_
    refine Y_move ?_
    refine Y_nilCheck ?_
    refine Y_fieldAddr F.foff67_0 ?_
    refine Y_fieldAddr F.foff26_2 ?_
    refine Y_load F.lay23 ?_
    refine Y_load F.lay29 ?_
    refine X_fs rfl rfl F.ok19 rfl (Find_ok _ ⟨s_store_a, s_store_c, s_store_l⟩ p_key k_st hsto) rfl ?_
    rintro _ hv
    obtain ⟨⟨xc, xb⟩, hx⟩ : ∃ r, findX s_store_l p_key = r := ⟨_, rfl⟩
    replace hv : _ = findXv (findX s_store_l p_key) := hv
    rw [hx] at hv
    subst hv
    have hpl := findX_pl s_store_l p_key
    rw [hx] at hpl
    have okx : CellV.ok M xc := by have h9 := findX_ok hsto p_key; rw [hx] at h9; exact h9
    obtain ⟨⟨D1, da, db, de⟩, hD⟩ : ∃ x, doC (findP (pls s_store_l) p_key).1 (⟨p_op_client, p_op_req, p_op_kind, p_op_version, p_op_val⟩ : OpV) = x := ⟨_, rfl⟩
    have hpl1 : xc.pl = (findP (pls s_store_l) p_key).1 := congrArg Prod.fst hpl
    obtain ⟨x_v, x_h, x_s, ⟨x_a, x_c, x_l⟩⟩ := xc
    refine Y_move ?_
    iterate 2 refine Y_extract ?_
    refine Y_alloc F.zero37 ?_; intro b5
    refine Y_store F.lay37 ?_
    refine Y_assign ?_
    refine XD_end ?_
    refine K_then ?_
    refine Y_pk [10, 8, 5, 4, 0] ?_
    refine C_seq ?_
    refine C_region (l := [0, 1, 2, 3, 4, 5, 6, 7, 8, 9, 10, 11, 12]) rfl ?_
    refine Y_load F.lay37 ?_
    refine Y_load F.lay31 ?_
    refine X_fn rfl rfl F.ok56 rfl (Do_ok _ ⟨x_v, x_h, x_s, ⟨x_a, x_c, x_l⟩⟩ (⟨p_op_client, p_op_req, p_op_kind, p_op_version, p_op_val⟩ : OpV) okx) rfl ?_
    rintro _ M1 hm1 hv
    replace hv : DoE _ _ (doC (CellV.pl ⟨x_v, x_h, x_s, ⟨x_a, x_c, x_l⟩⟩) (⟨p_op_client, p_op_req, p_op_kind, p_op_version, p_op_val⟩ : OpV)) := hv
    rw [hpl1, hD] at hv
    obtain ⟨⟨d_v, d_h, d_s, ⟨d_a, d_c, d_l⟩⟩, rfl, hdp, okd⟩ := hv
    obtain ⟨da1, da2, da3, da4⟩ := da
    simp only at hdp
    refine Y_move ?_
    iterate 4 refine Y_extract ?_
    refine Y_alloc F.zero34 ?_; intro b6
    refine Y_store F.lay37 ?_
    refine Y_store F.lay34 ?_
    iterate 2 refine Y_assign ?_
    refine XD_end ?_
    refine K_then ?_
    refine Y_pk [13, 12, 10, 8, 5, 4, 0] ?_
    iterate 2 refine C_seq ?_
    refine C_regionW (l := [0, 1, 2, 3, 4, 5, 6, 7, 8, 9]) [7] rfl ?_
    refine Y_fieldAddr F.foff31_2 ?_
    refine Y_load F.lay3 ?_
    refine Y_cmp ?_
    refine Y_move ?_
    refine XD_part 87 rfl (fun hc7 => ?_) (fun hc7 => ?_)
    ·replace hc7 := nT hc7
     have hkind : ¬ p_op_kind = 1 := by omega
     refine Y_move ?_
     refine Y_load F.lay29 ?_
     refine Y_load F.lay37 ?_
     refine X_fhW rfl rfl rfl F.ok57 rfl (put_ok9 M1 bw s_addr s_epoch s_serial r s_store_a s_waits_a l_a none s_store_c s_waits_c l_c 0 s_store_l s_waits_l l_l [] (k_st.mono hm1) (fun h hh => (hsto h hh).mono hm1) p_key ⟨d_v, d_h, d_s, ⟨d_a, d_c, d_l⟩⟩ okd) (by repeat first | exact Rem.here _ | exact Rem.two | apply Rem.skip | apply Rem.over) (putE_some rfl) ?_
     rintro _ M2 hs2 hm2 ⟨⟨u_a, u_c, u_l⟩, rfl, rfl, k_u, l_u, hu⟩
     rw [hdp] at hu ⊢
     obtain ⟨⟨Q1, qe⟩, hQ⟩ : ∃ x, putR (pls s_store_l) p_key D1 = x := ⟨_, rfl⟩
     rw [hQ] at hu ⊢
     simp only at hu l_u ⊢
     simp only [List.append_assoc, List.cons_append, List.nil_append]
     refine Y_not ?_
     refine Y_pick ?_
     refine XD_end ?_
     refine K_unw ?_
     refine K_then ?_
     refine Y_pk [93, 13, 12, 8, 5, 4, 0] ?_
     refine C_cond rfl (fun hc8 => ?_) (fun hc8 => ?_)
     ·replace hc8 := nT hc8
      refine C_ret ?_
      refine K_ret ?_
      refine K_end (.inr rfl) (.nil) (fun w hw => ?_)
      have hqe : ¬ qe = 0 := by first | assumption | (intro h9; simp_all; done)
      rw [if_neg hqe] at hu
      have hreq : requestR (ServerV.pl ⟨s_addr, s_epoch, ⟨s_store_a, s_store_c, s_store_l⟩, ⟨s_waits_a, s_waits_c, s_waits_l⟩, s_serial⟩) l_l r (ParcelV.pl ⟨p_kind, p_epoch, p_key, ⟨p_op_client, p_op_req, p_op_kind, p_op_version, p_op_val⟩, ⟨p_answer_code, p_answer_version, p_answer_has, p_answer_val⟩, p_serial, ⟨p_cell_version, p_cell_has, p_cell_val, ⟨p_cell_marks_a, p_cell_marks_c, p_cell_marks_l⟩⟩⟩) = ((ServerV.pl ⟨s_addr, s_epoch, ⟨s_store_a, s_store_c, s_store_l⟩, ⟨s_waits_a, s_waits_c, s_waits_l⟩, s_serial⟩), []) := req_full (s := ServerV.pl ⟨s_addr, s_epoch, ⟨s_store_a, s_store_c, s_store_l⟩, ⟨s_waits_a, s_waits_c, s_waits_l⟩, s_serial⟩) (l := l_l) (r := r) (p := ParcelV.pl ⟨p_kind, p_epoch, p_key, ⟨p_op_client, p_op_req, p_op_kind, p_op_version, p_op_val⟩, ⟨p_answer_code, p_answer_version, p_answer_has, p_answer_val⟩, p_serial, ⟨p_cell_version, p_cell_has, p_cell_val, ⟨p_cell_marks_a, p_cell_marks_c, p_cell_marks_l⟩⟩⟩) (by show (l_l.getD (ownerI l_l p_key) ⟨0, 0⟩).addr = s_addr; rw [hog, List.getD_eq_getElem?_getD, List.getElem?_eq_getElem ho9]; show l_l[o9].addr = s_addr; first | assumption | omega) (hf5 hbi9) hkind (show (doC (findP (pls s_store_l) p_key).1 (⟨p_op_client, p_op_req, p_op_kind, p_op_version, p_op_val⟩ : OpV)) = _ from hD) hQ hqe
      refine ⟨_, M2, (bw, rowO (WorkerV.segs ⟨⟨s_addr, s_epoch, ⟨u_a, u_c, u_l⟩, ⟨s_waits_a, s_waits_c, s_waits_l⟩, s_serial⟩, ⟨l_a, l_c, l_l⟩, r, ⟨none, 0, []⟩⟩) 67) :: ([] ++ hw0), rfl, (hm1.trans hm2), ?_, rfl, ⟨⟨s_addr, s_epoch, ⟨u_a, u_c, u_l⟩, ⟨s_waits_a, s_waits_c, s_waits_l⟩, s_serial⟩, ⟨none, 0, []⟩, [], hw0, rfl, OSl.nil, hW, (by rw [hreq]; show Srv.mk _ _ (pls u_l) _ _ = Srv.mk _ _ (pls s_store_l) _ _; rw [hu]), (by rw [hreq]; rfl), k_u, l_u, (fun h hh => (okw h hh).mono (hm1.trans hm2)), (fun y hy => by cases hy)⟩⟩
      ·simp only [WorkerV.segs, Sl.val] at hw ⊢
       exact hw.c
     ·replace hc8 := nF hc8
      refine C_skip ?_
      refine K_then ?_
      refine Y_pk [13, 12, 8, 5, 4, 0] ?_
      refine C_seq ?_
      refine C_regionW (l := [0, 1, 2, 3]) [2] rfl ?_
      refine Y_move ?_
      refine Y_load F.lay29 ?_
      refine X_fhW rfl rfl rfl F.ok58 rfl (others_ok9 M2 bw s_addr s_epoch s_serial r u_a s_waits_a l_a none u_c s_waits_c l_c 0 u_l s_waits_l l_l [] (k_l.mono (hm1.trans hm2)) hci hr p_key) (by repeat first | exact Rem.here _ | exact Rem.two | apply Rem.skip | apply Rem.over) (putE_some rfl) ?_
      rintro _ M3 hs3 hm3 ⟨rfl, ⟨t_a, t_c, t_l⟩, rfl, ht, k_t⟩
      simp only at ht
      have htl : t_l.length ≤ 1000 := by rw [ht]; exact upto_len
      replace ht : Hid (t_l = othersR l_l r p_key) := ht
      simp only [List.append_assoc, List.cons_append, List.nil_append]
      refine Y_assign ?_
      refine XD_end ?_
      refine K_unw ?_
      refine K_then ?_
      refine Y_pk [15, 13, 12, 8, 5, 4, 0] ?_
      iterate 2 refine C_seq ?_
      refine C_region (l := [0, 1, 2, 3, 4, 5, 6]) rfl ?_
      refine Y_move ?_
      refine Y_not ?_
      refine Y_move ?_
      refine XD_part 99 rfl (fun hc9 => ?_) (fun hc9 => ?_)
      ·skip
       iterate 3 refine Y_skip ?_
       refine Y_pick ?_
       refine XD_end ?_
       refine K_then ?_
       refine Y_pk [103, 15, 12, 8, 5, 4, 0] ?_
       refine C_true rfl ?_
       refine C_seq ?_
       refine C_regionW (l := [0, 1, 2, 3, 4, 5, 6]) [6] rfl ?_
       refine Y_move ?_
       refine Y_fieldAddr F.foff31_0 ?_
       refine Y_load F.lay3 ?_
       refine Y_fieldAddr F.foff31_1 ?_
       refine Y_load F.lay22 ?_
       refine Y_load F.lay34 ?_
       refine X_fhW rfl rfl rfl F.ok54 rfl (reply_ok M3 bw s_addr s_epoch s_serial r u_a s_waits_a l_a none u_c s_waits_c l_c 0 u_l s_waits_l l_l [] [] OSl.nil (by show 0 ≤ 90000; omega) p_op_client p_op_req ⟨da1, da2, da3, da4⟩ hcl) (by repeat first | exact Rem.here _ | exact Rem.two | apply Rem.skip | apply Rem.over) (putE_some rfl) ?_
       rintro _ MX hsX hmX ⟨hMX, rfl, ⟨o2_a, o2_c, o2_l⟩, ho2, rfl, hO2, ho2l⟩
       subst MX
       clear hmX
       simp only at ho2l hO2
       rw [List.nil_append] at ho2l
       simp only [List.append_assoc, List.cons_append, List.nil_append]
       refine XD_end ?_
       refine K_unw ?_
       refine K_then ?_
       refine Y_pk [15, 12, 8, 5, 4, 0] ?_
       refine C_ret ?_
       refine K_ret ?_
       refine K_end (.inr rfl) (.nil) (fun w hw => ?_)
       have hqe : qe = 0 := by first | assumption | (simp_all; done)
       rw [if_pos hqe] at hu
       have hdn : db = false ∨ t_l = [] := by first | exact .inl (by assumption) | exact .inl (by have h9 : (!db) = true := (by assumption); simpa using h9) | exact .inr (List.eq_nil_of_length_eq_zero (by omega))
       have hreq : requestR (ServerV.pl ⟨s_addr, s_epoch, ⟨s_store_a, s_store_c, s_store_l⟩, ⟨s_waits_a, s_waits_c, s_waits_l⟩, s_serial⟩) l_l r (ParcelV.pl ⟨p_kind, p_epoch, p_key, ⟨p_op_client, p_op_req, p_op_kind, p_op_version, p_op_val⟩, ⟨p_answer_code, p_answer_version, p_answer_has, p_answer_val⟩, p_serial, ⟨p_cell_version, p_cell_has, p_cell_val, ⟨p_cell_marks_a, p_cell_marks_c, p_cell_marks_l⟩⟩⟩) = (⟨s_addr, s_epoch, Q1, wtl s_waits_l, s_serial⟩, [replyR (ServerV.pl ⟨s_addr, s_epoch, ⟨s_store_a, s_store_c, s_store_l⟩, ⟨s_waits_a, s_waits_c, s_waits_l⟩, s_serial⟩) p_op_client p_op_req ⟨da1, da2, da3, da4⟩]) := req_done (s := ServerV.pl ⟨s_addr, s_epoch, ⟨s_store_a, s_store_c, s_store_l⟩, ⟨s_waits_a, s_waits_c, s_waits_l⟩, s_serial⟩) (l := l_l) (r := r) (p := ParcelV.pl ⟨p_kind, p_epoch, p_key, ⟨p_op_client, p_op_req, p_op_kind, p_op_version, p_op_val⟩, ⟨p_answer_code, p_answer_version, p_answer_has, p_answer_val⟩, p_serial, ⟨p_cell_version, p_cell_has, p_cell_val, ⟨p_cell_marks_a, p_cell_marks_c, p_cell_marks_l⟩⟩⟩) (by show (l_l.getD (ownerI l_l p_key) ⟨0, 0⟩).addr = s_addr; rw [hog, List.getD_eq_getElem?_getD, List.getElem?_eq_getElem ho9]; show l_l[o9].addr = s_addr; first | assumption | omega) (hf5 hbi9) hkind (show (doC (findP (pls s_store_l) p_key).1 (⟨p_op_client, p_op_req, p_op_kind, p_op_version, p_op_val⟩ : OpV)) = _ from hD) hQ hqe ht hdn
       refine ⟨_, M3, (bw, rowO (WorkerV.segs ⟨⟨s_addr, s_epoch, ⟨u_a, u_c, u_l⟩, ⟨s_waits_a, s_waits_c, s_waits_l⟩, s_serial⟩, ⟨l_a, l_c, l_l⟩, r, ⟨o2_a, o2_c, o2_l⟩⟩) 67) :: (ho2 ++ hw0), rfl, (hm1.trans (hm2.trans hm3)), ?_, rfl, ⟨⟨s_addr, s_epoch, ⟨u_a, u_c, u_l⟩, ⟨s_waits_a, s_waits_c, s_waits_l⟩, s_serial⟩, ⟨o2_a, o2_c, o2_l⟩, ho2, hw0, rfl, hO2, hW, (by rw [hreq]; show Srv.mk _ _ (pls u_l) _ _ = Srv.mk _ _ Q1 _ _; rw [hu]), (by rw [ho2l, hreq]; rfl), (k_u.mono hm3), (fun h hh => (l_u h hh).mono hm3), (fun h hh => (okw h hh).mono (hm1.trans (hm2.trans hm3))), (fun y hy => by rw [ho2l] at hy; obtain rfl := List.mem_singleton.1 hy; exact ⟨⟨CellV.zero_ok _⟩⟩)⟩⟩
       ·simp only [WorkerV.segs, Sl.val] at hw ⊢
        exact hw.c
      ·skip
       refine Y_move ?_
       refine Y_len_sl F.elem52 ?_
       refine Y_cmp ?_
       refine Y_pick ?_
       refine XD_end ?_
       refine K_then ?_
       refine Y_pk [103, 15, 12, 8, 5, 4, 0] ?_
       refine C_cond rfl (fun hc10 => ?_) (fun hc10 => ?_)
       ·replace hc10 := dT hc10
        refine C_seq ?_
        refine C_regionW (l := [0, 1, 2, 3, 4, 5, 6]) [6] rfl ?_
        refine Y_move ?_
        refine Y_fieldAddr F.foff31_0 ?_
        refine Y_load F.lay3 ?_
        refine Y_fieldAddr F.foff31_1 ?_
        refine Y_load F.lay22 ?_
        refine Y_load F.lay34 ?_
        refine X_fhW rfl rfl rfl F.ok54 rfl (reply_ok M3 bw s_addr s_epoch s_serial r u_a s_waits_a l_a none u_c s_waits_c l_c 0 u_l s_waits_l l_l [] [] OSl.nil (by show 0 ≤ 90000; omega) p_op_client p_op_req ⟨da1, da2, da3, da4⟩ hcl) (by repeat first | exact Rem.here _ | exact Rem.two | apply Rem.skip | apply Rem.over) (putE_some rfl) ?_
        rintro _ MX hsX hmX ⟨hMX, rfl, ⟨o2_a, o2_c, o2_l⟩, ho2, rfl, hO2, ho2l⟩
        subst MX
        clear hmX
        simp only at ho2l hO2
        rw [List.nil_append] at ho2l
        simp only [List.append_assoc, List.cons_append, List.nil_append]
        refine XD_end ?_
        refine K_unw ?_
        refine K_then ?_
        refine Y_pk [15, 12, 8, 5, 4, 0] ?_
        refine C_ret ?_
        refine K_ret ?_
        refine K_end (.inr rfl) (.nil) (fun w hw => ?_)
        have hqe : qe = 0 := by first | assumption | (simp_all; done)
        rw [if_pos hqe] at hu
        have hdn : db = false ∨ t_l = [] := by first | exact .inl (by assumption) | exact .inl (by have h9 : (!db) = true := (by assumption); simpa using h9) | exact .inr (List.eq_nil_of_length_eq_zero (by omega))
        have hreq : requestR (ServerV.pl ⟨s_addr, s_epoch, ⟨s_store_a, s_store_c, s_store_l⟩, ⟨s_waits_a, s_waits_c, s_waits_l⟩, s_serial⟩) l_l r (ParcelV.pl ⟨p_kind, p_epoch, p_key, ⟨p_op_client, p_op_req, p_op_kind, p_op_version, p_op_val⟩, ⟨p_answer_code, p_answer_version, p_answer_has, p_answer_val⟩, p_serial, ⟨p_cell_version, p_cell_has, p_cell_val, ⟨p_cell_marks_a, p_cell_marks_c, p_cell_marks_l⟩⟩⟩) = (⟨s_addr, s_epoch, Q1, wtl s_waits_l, s_serial⟩, [replyR (ServerV.pl ⟨s_addr, s_epoch, ⟨s_store_a, s_store_c, s_store_l⟩, ⟨s_waits_a, s_waits_c, s_waits_l⟩, s_serial⟩) p_op_client p_op_req ⟨da1, da2, da3, da4⟩]) := req_done (s := ServerV.pl ⟨s_addr, s_epoch, ⟨s_store_a, s_store_c, s_store_l⟩, ⟨s_waits_a, s_waits_c, s_waits_l⟩, s_serial⟩) (l := l_l) (r := r) (p := ParcelV.pl ⟨p_kind, p_epoch, p_key, ⟨p_op_client, p_op_req, p_op_kind, p_op_version, p_op_val⟩, ⟨p_answer_code, p_answer_version, p_answer_has, p_answer_val⟩, p_serial, ⟨p_cell_version, p_cell_has, p_cell_val, ⟨p_cell_marks_a, p_cell_marks_c, p_cell_marks_l⟩⟩⟩) (by show (l_l.getD (ownerI l_l p_key) ⟨0, 0⟩).addr = s_addr; rw [hog, List.getD_eq_getElem?_getD, List.getElem?_eq_getElem ho9]; show l_l[o9].addr = s_addr; first | assumption | omega) (hf5 hbi9) hkind (show (doC (findP (pls s_store_l) p_key).1 (⟨p_op_client, p_op_req, p_op_kind, p_op_version, p_op_val⟩ : OpV)) = _ from hD) hQ hqe ht hdn
        refine ⟨_, M3, (bw, rowO (WorkerV.segs ⟨⟨s_addr, s_epoch, ⟨u_a, u_c, u_l⟩, ⟨s_waits_a, s_waits_c, s_waits_l⟩, s_serial⟩, ⟨l_a, l_c, l_l⟩, r, ⟨o2_a, o2_c, o2_l⟩⟩) 67) :: (ho2 ++ hw0), rfl, (hm1.trans (hm2.trans hm3)), ?_, rfl, ⟨⟨s_addr, s_epoch, ⟨u_a, u_c, u_l⟩, ⟨s_waits_a, s_waits_c, s_waits_l⟩, s_serial⟩, ⟨o2_a, o2_c, o2_l⟩, ho2, hw0, rfl, hO2, hW, (by rw [hreq]; show Srv.mk _ _ (pls u_l) _ _ = Srv.mk _ _ Q1 _ _; rw [hu]), (by rw [ho2l, hreq]; rfl), (k_u.mono hm3), (fun h hh => (l_u h hh).mono hm3), (fun h hh => (okw h hh).mono (hm1.trans (hm2.trans hm3))), (fun y hy => by rw [ho2l] at hy; obtain rfl := List.mem_singleton.1 hy; exact ⟨⟨CellV.zero_ok _⟩⟩)⟩⟩
        ·simp only [WorkerV.segs, Sl.val] at hw ⊢
         exact hw.c
       ·replace hc10 := dF hc10
        refine C_skip ?_
        refine K_then ?_
        refine Y_pk [15, 12, 8, 5, 4, 0] ?_
        refine C_seq ?_
        refine C_region (l := [0, 1, 2, 3, 4, 5, 6, 7, 8, 9]) rfl ?_
        refine Y_move ?_
        refine Y_nilCheck ?_
        refine Y_fieldAddr F.foff67_0 ?_
        refine Y_fieldAddr F.foff26_4 ?_
        refine Y_load F.lay22 ?_
        refine X_ari rfl rfl rfl rfl rfl (by exact wrap_u64 _) rfl ?_
        obtain ⟨v9, hv9⟩ : ∃ v, w64 (s_serial + 1) = v := ⟨_, rfl⟩
        refine XD_is 116 rfl (show _ = Value.int .u64 v9 from congrArg (Value.int .u64) hv9) ?_
        refine Y_nilCheck ?_
        refine Y_fieldAddr F.foff67_0 ?_
        refine Y_fieldAddr F.foff26_4 ?_
        refine Y_store F.lay22 ?_
        refine XD_end ?_
        refine K_then ?_
        refine Y_pk [15, 12, 8, 5, 4, 0] ?_
        refine C_seq ?_
        refine C_region_any (l := [0, 1, 2, 3, 4, 5, 6, 7, 8, 9, 10, 11, 12, 13, 14]) #[0, 0, 2, 0, 8, 0, 0, 64, 192, 448, 960, 0, 4095, 0, 16383] _ rfl (by kernel_rfl) (by kernel_rfl) St.drawn (fun _ h => h) ?_
        refine Y_load F.lay29 ?_
        refine Y_fieldAddr F.foff31_0 ?_
        refine Y_load F.lay3 ?_
        refine Y_fieldAddr F.foff31_1 ?_
        refine Y_load F.lay22 ?_
        refine Y_load F.lay34 ?_
        refine Y_move ?_
        refine Y_nilCheck ?_
        refine Y_fieldAddr F.foff67_0 ?_
        refine Y_fieldAddr F.foff26_4 ?_
        refine Y_load F.lay22 ?_
        refine Y_move ?_
        refine X_build rfl rfl F.bld54 (.cons rfl (by constructor) (.cons rfl (by constructor) (.cons rfl (by constructor) (.cons rfl (by constructor) (.cons rfl (by constructor) (.cons rfl (by constructor) .nil)))))) rfl rfl ?_
        refine Y_alloc F.zero54 ?_; intro b11
        refine Y_store F.lay54 ?_
        refine XD_end ?_
        refine K_then ?_
        refine Y_pk [16, 8, 0] ?_
        refine C_seq ?_
        refine C_region_anyW (l := [0, 1, 2, 3, 4, 5, 6, 7, 8, 9, 10, 11, 12, 13]) [9] #[0, 0, 2, 6, 14, 30, 0, 0, 128, 510, 1023, 2047, 4095, 8191] _ rfl (by kernel_rfl) (by kernel_rfl) St.drawn (fun _ h => h) ?_
        iterate 2 refine Y_move ?_
        refine Y_nilCheck ?_
        refine Y_fieldAddr F.foff67_0 ?_
        refine Y_fieldAddr F.foff26_3 ?_
        refine Y_load F.lay24 ?_
        refine Y_move ?_
        refine Y_load F.lay54 ?_
        refine X_buildSliceF rfl rfl F.elem24 F.zero54 rfl rfl (.cons rfl (by constructor) .nil) rfl rfl (by simp only [List.map_cons, List.map_nil] <;> rfl) rfl ?_; intro b12 hob13
        refine X_fhW2 rfl rfl rfl F.ok59 rfl (InsertW_ok M3 s_waits_a s_waits_c s_waits_l hw0 kk hf1 (⟨p_key, p_op_client, p_op_req, ⟨da1, da2, da3, da4⟩, v9, ⟨t_a, t_c, t_l⟩⟩ : WaitV) _ _ hob13 (by omega) hW) (by repeat first | exact Rem.here _ | exact Rem.two | apply Rem.skip | apply Rem.over) (by repeat first | exact Rem.here _ | exact Rem.two | apply Rem.skip | apply Rem.over) (putE_some rfl) ?_
        rintro v7 MX hs7 hmX ⟨hMX, ho7⟩
        subst MX
        clear hmX
        obtain ⟨ad7, cp7, rfl⟩ := ho7.valL
        simp only [List.append_assoc, List.cons_append, List.nil_append]
        refine Y_nilCheck ?_
        refine Y_fieldAddr F.foff67_0 ?_
        refine Y_fieldAddr F.foff26_3 ?_
        refine Y_store F.lay24 ?_
        refine XD_end ?_
        refine K_unw ?_
        refine K_then ?_
        refine Y_pk [16, 0] ?_
        refine C_regionW (l := [0, 1, 2]) [2] rfl ?_
        refine Y_move ?_
        refine Y_load F.lay54 ?_
        refine X_fhW rfl rfl rfl F.ok55 rfl (copies_ok M3 bw s_addr s_epoch v9 r u_a ad7 l_a none u_c cp7 l_c 0 u_l (insL s_waits_l kk (⟨p_key, p_op_client, p_op_req, ⟨da1, da2, da3, da4⟩, v9, ⟨t_a, t_c, t_l⟩⟩ : WaitV)) l_l [] [] OSl.nil (by show 0 ≤ 90000; omega) (⟨p_key, p_op_client, p_op_req, ⟨da1, da2, da3, da4⟩, v9, ⟨t_a, t_c, t_l⟩⟩ : WaitV) (by show t_l.length ≤ 1000; omega) k_t (k_u.mono hm3) (fun h hh => (l_u h hh).mono hm3)) (by repeat first | exact Rem.here _ | exact Rem.two | apply Rem.skip | apply Rem.over) (putE_some rfl) ?_
        rintro _ MX hsX hmX ⟨hMX, rfl, ⟨o2_a, o2_c, o2_l⟩, ho2, rfl, hO2, ho2l⟩
        subst MX
        clear hmX
        simp only at ho2l hO2
        rw [List.nil_append] at ho2l
        simp only [List.append_assoc, List.cons_append, List.nil_append]
        refine XD_end ?_
        refine K_unw ?_
        refine K_end (.inl rfl) (.nil) (fun w hw => ?_)
        have hqe : qe = 0 := by first | assumption | (simp_all; done)
        rw [if_pos hqe] at hu
        have hdn : ¬ (db = false ∨ t_l = []) := by
         rintro (h9 | h9)
         ·(have h8 : (!db) = false := (by assumption); rw [h9] at h8; cases h8)
         ·have h7 := congrArg List.length h9
          simp only [List.length_nil] at h7
          omega
        have hwi := wait_ins (l := s_waits_l) hsv.1 hkk (x := (⟨p_key, p_op_client, p_op_req, ⟨da1, da2, da3, da4⟩, v9, ⟨t_a, t_c, t_l⟩⟩ : WaitV)) rfl
        have hcp := wk_copies (ep := s_epoch) (ser := v9) (addr := s_addr) (v := v9) (key := p_key) (W := wtl (insL s_waits_l kk (⟨p_key, p_op_client, p_op_req, ⟨da1, da2, da3, da4⟩, v9, ⟨t_a, t_c, t_l⟩⟩ : WaitV))) (fun h hh => (l_u h hh).mono hm3) ho2l
        have hreq : requestR (ServerV.pl ⟨s_addr, s_epoch, ⟨s_store_a, s_store_c, s_store_l⟩, ⟨s_waits_a, s_waits_c, s_waits_l⟩, s_serial⟩) l_l r (ParcelV.pl ⟨p_kind, p_epoch, p_key, ⟨p_op_client, p_op_req, p_op_kind, p_op_version, p_op_val⟩, ⟨p_answer_code, p_answer_version, p_answer_has, p_answer_val⟩, p_serial, ⟨p_cell_version, p_cell_has, p_cell_val, ⟨p_cell_marks_a, p_cell_marks_c, p_cell_marks_l⟩⟩⟩) = (⟨s_addr, s_epoch, Q1, wtl (insL s_waits_l kk (⟨p_key, p_op_client, p_op_req, ⟨da1, da2, da3, da4⟩, v9, ⟨t_a, t_c, t_l⟩⟩ : WaitV)), v9⟩, copiesP ⟨s_addr, s_epoch, Q1, wtl (insL s_waits_l kk (⟨p_key, p_op_client, p_op_req, ⟨da1, da2, da3, da4⟩, v9, ⟨t_a, t_c, t_l⟩⟩ : WaitV)), v9⟩ p_key v9 t_l) := req_more (s := ServerV.pl ⟨s_addr, s_epoch, ⟨s_store_a, s_store_c, s_store_l⟩, ⟨s_waits_a, s_waits_c, s_waits_l⟩, s_serial⟩) (l := l_l) (r := r) (p := ParcelV.pl ⟨p_kind, p_epoch, p_key, ⟨p_op_client, p_op_req, p_op_kind, p_op_version, p_op_val⟩, ⟨p_answer_code, p_answer_version, p_answer_has, p_answer_val⟩, p_serial, ⟨p_cell_version, p_cell_has, p_cell_val, ⟨p_cell_marks_a, p_cell_marks_c, p_cell_marks_l⟩⟩⟩) (by show (l_l.getD (ownerI l_l p_key) ⟨0, 0⟩).addr = s_addr; rw [hog, List.getD_eq_getElem?_getD, List.getElem?_eq_getElem ho9]; show l_l[o9].addr = s_addr; first | assumption | omega) (hf5 hbi9) hkind (show (doC (findP (pls s_store_l) p_key).1 (⟨p_op_client, p_op_req, p_op_kind, p_op_version, p_op_val⟩ : OpV)) = _ from hD) hQ hqe ht hdn hv9 hwi
        refine ⟨_, M3, (bw, rowO (WorkerV.segs ⟨⟨s_addr, s_epoch, ⟨u_a, u_c, u_l⟩, ⟨ad7, cp7, insL s_waits_l kk (⟨p_key, p_op_client, p_op_req, ⟨da1, da2, da3, da4⟩, v9, ⟨t_a, t_c, t_l⟩⟩ : WaitV)⟩, v9⟩, ⟨l_a, l_c, l_l⟩, r, ⟨o2_a, o2_c, o2_l⟩⟩) 67) :: (ho2 ++ hs7), rfl, (hm1.trans (hm2.trans hm3)), ?_, rfl, ⟨⟨s_addr, s_epoch, ⟨u_a, u_c, u_l⟩, ⟨ad7, cp7, insL s_waits_l kk (⟨p_key, p_op_client, p_op_req, ⟨da1, da2, da3, da4⟩, v9, ⟨t_a, t_c, t_l⟩⟩ : WaitV)⟩, v9⟩, ⟨o2_a, o2_c, o2_l⟩, ho2, hs7, rfl, hO2, ho7, (by rw [hreq]; show Srv.mk _ _ (pls u_l) _ _ = Srv.mk _ _ Q1 _ _; rw [hu]), (by rw [hreq, ← hu]; exact hcp.1), (k_u.mono hm3), (fun h hh => (l_u h hh).mono hm3), (fun h hh => by rcases insL_mem hh with rfl | hh; exact ⟨k_t⟩; exact (okw h hh).mono (hm1.trans (hm2.trans hm3))), hcp.2⟩⟩
        ·simp only [WorkerV.segs, Sl.val] at hw ⊢
         exact hw.c
    ·replace hc7 := nF hc7
     iterate 5 refine Y_skip ?_
     refine Y_pick ?_
     refine XD_end ?_
     refine K_unw ?_
     refine K_then ?_
     refine Y_pk [93, 13, 12, 8, 5, 4, 0] ?_
     refine C_false rfl ?_
     refine C_skip ?_
     refine K_then ?_
     refine Y_pk [13, 12, 8, 5, 4, 0] ?_
     refine C_seq ?_
     have hkind : p_op_kind = 1 := by omega
     have hdb : db = false := by
      have h9 := doC_get (c := (findP (pls s_store_l) p_key).1) (o := (⟨p_op_client, p_op_req, p_op_kind, p_op_version, p_op_val⟩ : OpV)) (findP_ok hsv.2.2.2 p_key) hop hkind
      rw [hD] at h9
      exact congrArg (fun x : Cel × AnswerV × Bool × Int => x.2.2.1) h9
     subst hdb
     refine C_regionW (l := [0, 1, 2, 3]) [2] rfl ?_
     refine Y_move ?_
     refine Y_load F.lay29 ?_
     refine X_fhW rfl rfl rfl F.ok58 rfl (others_ok9 M1 bw s_addr s_epoch s_serial r s_store_a s_waits_a l_a none s_store_c s_waits_c l_c 0 s_store_l s_waits_l l_l [] (k_l.mono hm1) hci hr p_key) (by repeat first | exact Rem.here _ | exact Rem.two | apply Rem.skip | apply Rem.over) (putE_some rfl) ?_
     rintro _ M3 hs3 hm3 ⟨rfl, ⟨t_a, t_c, t_l⟩, rfl, ht, k_t⟩
     simp only at ht
     have htl : t_l.length ≤ 1000 := by rw [ht]; exact upto_len
     replace ht : Hid (t_l = othersR l_l r p_key) := ht
     simp only [List.append_assoc, List.cons_append, List.nil_append]
     refine Y_assign ?_
     refine XD_end ?_
     refine K_unw ?_
     refine K_then ?_
     refine Y_pk [15, 13, 12, 8, 5, 4, 0] ?_
     iterate 2 refine C_seq ?_
     refine C_region (l := [0, 1, 2, 3, 4, 5, 6]) rfl ?_
     refine Y_move ?_
     refine Y_not ?_
     refine Y_move ?_
     refine XD_part 99 rfl (fun hc14 => ?_) (fun hc14 => ?_)
     ·skip
      iterate 3 refine Y_skip ?_
      refine Y_pick ?_
      refine XD_end ?_
      refine K_then ?_
      refine Y_pk [103, 15, 12, 8, 5, 4, 0] ?_
      refine C_true rfl ?_
      refine C_seq ?_
      refine C_regionW (l := [0, 1, 2, 3, 4, 5, 6]) [6] rfl ?_
      refine Y_move ?_
      refine Y_fieldAddr F.foff31_0 ?_
      refine Y_load F.lay3 ?_
      refine Y_fieldAddr F.foff31_1 ?_
      refine Y_load F.lay22 ?_
      refine Y_load F.lay34 ?_
      refine X_fhW rfl rfl rfl F.ok54 rfl (reply_ok M3 bw s_addr s_epoch s_serial r s_store_a s_waits_a l_a none s_store_c s_waits_c l_c 0 s_store_l s_waits_l l_l [] [] OSl.nil (by show 0 ≤ 90000; omega) p_op_client p_op_req ⟨da1, da2, da3, da4⟩ hcl) (by repeat first | exact Rem.here _ | exact Rem.two | apply Rem.skip | apply Rem.over) (putE_some rfl) ?_
      rintro _ MX hsX hmX ⟨hMX, rfl, ⟨o2_a, o2_c, o2_l⟩, ho2, rfl, hO2, ho2l⟩
      subst MX
      clear hmX
      simp only at ho2l hO2
      rw [List.nil_append] at ho2l
      simp only [List.append_assoc, List.cons_append, List.nil_append]
      refine XD_end ?_
      refine K_unw ?_
      refine K_then ?_
      refine Y_pk [15, 12, 8, 5, 4, 0] ?_
      refine C_ret ?_
      refine K_ret ?_
      refine K_end (.inr rfl) (.nil) (fun w hw => ?_)
      have hreq : requestR (ServerV.pl ⟨s_addr, s_epoch, ⟨s_store_a, s_store_c, s_store_l⟩, ⟨s_waits_a, s_waits_c, s_waits_l⟩, s_serial⟩) l_l r (ParcelV.pl ⟨p_kind, p_epoch, p_key, ⟨p_op_client, p_op_req, p_op_kind, p_op_version, p_op_val⟩, ⟨p_answer_code, p_answer_version, p_answer_has, p_answer_val⟩, p_serial, ⟨p_cell_version, p_cell_has, p_cell_val, ⟨p_cell_marks_a, p_cell_marks_c, p_cell_marks_l⟩⟩⟩) = ((ServerV.pl ⟨s_addr, s_epoch, ⟨s_store_a, s_store_c, s_store_l⟩, ⟨s_waits_a, s_waits_c, s_waits_l⟩, s_serial⟩), [replyR (ServerV.pl ⟨s_addr, s_epoch, ⟨s_store_a, s_store_c, s_store_l⟩, ⟨s_waits_a, s_waits_c, s_waits_l⟩, s_serial⟩) p_op_client p_op_req ⟨da1, da2, da3, da4⟩]) := req_get (s := ServerV.pl ⟨s_addr, s_epoch, ⟨s_store_a, s_store_c, s_store_l⟩, ⟨s_waits_a, s_waits_c, s_waits_l⟩, s_serial⟩) (l := l_l) (r := r) (p := ParcelV.pl ⟨p_kind, p_epoch, p_key, ⟨p_op_client, p_op_req, p_op_kind, p_op_version, p_op_val⟩, ⟨p_answer_code, p_answer_version, p_answer_has, p_answer_val⟩, p_serial, ⟨p_cell_version, p_cell_has, p_cell_val, ⟨p_cell_marks_a, p_cell_marks_c, p_cell_marks_l⟩⟩⟩) (by show (l_l.getD (ownerI l_l p_key) ⟨0, 0⟩).addr = s_addr; rw [hog, List.getD_eq_getElem?_getD, List.getElem?_eq_getElem ho9]; show l_l[o9].addr = s_addr; first | assumption | omega) (hf5 hbi9) hkind (show (doC (findP (pls s_store_l) p_key).1 (⟨p_op_client, p_op_req, p_op_kind, p_op_version, p_op_val⟩ : OpV)) = _ from hD)
      refine ⟨_, M3, (bw, rowO (WorkerV.segs ⟨⟨s_addr, s_epoch, ⟨s_store_a, s_store_c, s_store_l⟩, ⟨s_waits_a, s_waits_c, s_waits_l⟩, s_serial⟩, ⟨l_a, l_c, l_l⟩, r, ⟨o2_a, o2_c, o2_l⟩⟩) 67) :: (ho2 ++ hw0), rfl, (hm1.trans hm3), ?_, rfl, ⟨⟨s_addr, s_epoch, ⟨s_store_a, s_store_c, s_store_l⟩, ⟨s_waits_a, s_waits_c, s_waits_l⟩, s_serial⟩, ⟨o2_a, o2_c, o2_l⟩, ho2, hw0, rfl, hO2, hW, (by rw [hreq]), (by rw [ho2l, hreq]; rfl), (k_st.mono (hm1.trans hm3)), (fun h hh => (hsto h hh).mono (hm1.trans hm3)), (fun h hh => (okw h hh).mono (hm1.trans hm3)), (fun y hy => by rw [ho2l] at hy; obtain rfl := List.mem_singleton.1 hy; exact ⟨⟨CellV.zero_ok _⟩⟩)⟩⟩
      ·simp only [WorkerV.segs, Sl.val] at hw ⊢
       exact hw.c
     ·skip
      (exfalso; simp [eqX] at hc14; done)

end Go.Proofs.YtpkeilhilpogiaaGreat
