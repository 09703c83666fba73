/-
  Maps by texts in a walk: a literal's entries, a store, a tuple's store. Over any program.
  The closures of crit's table of keys, and the table in memory.
-/
import Derived.Test.YtnfabgbidkddhaaGreatDoorGRB
import Derived.Test.YtnfabgbidkddhaaGreatDoorProg
import Derived.Carry
namespace Go.Proofs.YtnfabgbidkddhaaGreatDoor
open Go.RowKit

section
variable {P : Program} {W : World} {b : Nat} {m : List (ByteArray × Value)}

/-- an entry of a literal. -/
theorem wpList_insert_str {ops : Array Oper} {rest : List Oper} {o : Oper} {a : Act} {Q : Exit → Act → World → Prop} (hgd : o.guard = none) (t : TypeId) (mo ko vo : Operand)
    (ho : o.op = .insert t mo ko vo) {kt e : TypeId} (ht : P.underlying t = some (.map kt e)) (hk : P.underlying kt = some .string) (hm : MapS W b m) (hmv : a.eval mo = .map (some b)) (x : ByteArray) (hx : a.eval ko = .string x) (v : Value) (hv : a.eval vo = v)
    (hK : ∀ w' u, MapS w' b (putS m x v) → Chg [b] W w' → wpList P ops Q rest (a.put o.dst u) w') : wpList P ops Q (o :: rest) a W := by
  refine wpList_plain hgd fun K hK' => ?_
  obtain ⟨w', hr, h1, h2⟩ := run_mapUpdate_str (P := P) ht hk hm x v
  unfold Oper.wp execOp
  simp only [ho, hmv, hx, hv, Sem.run_bind, Sem.run_pure, Result.andThen_ok, hr]
  exact hK' _ _ (hK w' _ h1 h2)
/-- 'm[k] = v'. -/
theorem wpList_update_str {ops : Array Oper} {rest : List Oper} {o : Oper} {a : Act} {Q : Exit → Act → World → Prop} (hgd : o.guard = none) (t : TypeId) (mo ko vo : Operand)
    (ho : o.op = .mapUpdate t mo ko vo) {kt e : TypeId} (ht : P.underlying t = some (.map kt e)) (hk : P.underlying kt = some .string) (hm : MapS W b m) (hmv : a.eval mo = .map (some b)) (x : ByteArray) (hx : a.eval ko = .string x) (v : Value) (hv : a.eval vo = v)
    (hK : ∀ w' u, MapS w' b (putS m x v) → Chg [b] W w' → wpList P ops Q rest (a.put o.dst u) w') : wpList P ops Q (o :: rest) a W := by
  refine wpList_plain hgd fun K hK' => ?_
  obtain ⟨w', hr, h1, h2⟩ := run_mapUpdate_str (P := P) ht hk hm x v
  unfold Oper.wp execOp
  simp only [ho, hmv, hx, hv, Sem.run_bind, Sem.run_pure, Result.andThen_ok, hr]
  exact hK' _ _ (hK w' _ h1 h2)
/-- the place of a tuple's store. -/
theorem wpList_entry_str {ops : Array Oper} {rest : List Oper} {o : Oper} {a : Act} {Q : Exit → Act → World → Prop} (hgd : o.guard = none) (t : TypeId) (mo ko : Operand)
    (ho : o.op = .mapEntry t mo ko) {kt e : TypeId} (ht : P.underlying t = some (.map kt e)) (hk : P.underlying kt = some .string) {z : Value} (hz : ∀ w, (zeroValue e).run P w = .ok z w) (hm : MapS W b m) (hmv : a.eval mo = .map (some b)) (x : ByteArray) (hx : a.eval ko = .string x) (hn : getS m x = none)
    (hK : ∀ c w', EntryAt w' b m x c → Chg [b] W w' → wpList P ops Q rest (a.put o.dst (.tuple #[z, .int .i64 (c : Nat)])) w') : wpList P ops Q (o :: rest) a W := by
  refine wpList_plain hgd fun K hK' => ?_
  obtain ⟨c, w', hr, h1, h2⟩ := run_mapEntry_str (P := P) ht hk hz hm x hn
  unfold Oper.wp execOp
  simp only [ho, hmv, hx, Sem.run_bind, Sem.run_pure, Result.andThen_ok, hr]
  exact hK' _ _ (hK c w' h1 h2)
/-- the store there. -/
theorem wpList_entryStore_str {x : ByteArray} {c : Nat} {ops : Array Oper} {rest : List Oper} {o : Oper} {a : Act} {Q : Exit → Act → World → Prop} (hgd : o.guard = none) (t : TypeId) (mo so vo : Operand)
    (ho : o.op = .entryStore t mo so vo) (hm : EntryAt W b m x c) (hmv : a.eval mo = .map (some b)) (hs : a.eval so = .int .i64 (c : Nat)) (v : Value) (hv : a.eval vo = v)
    (hK : ∀ w' u, MapS w' b (putS m x v) → Chg [b] W w' → wpList P ops Q rest (a.put o.dst u) w') : wpList P ops Q (o :: rest) a W := by
  refine wpList_plain hgd fun K hK' => ?_
  obtain ⟨w', hr, h1, h2⟩ := run_entryStore_str (P := P) (t := t) hm v
  unfold Oper.wp execOp
  simp only [ho, hmv, hs, hv, Sem.run_bind, Sem.run_pure, Result.andThen_ok, hr]
  exact hK' _ _ (hK w' _ h1 h2)
end

end Go.Proofs.YtnfabgbidkddhaaGreatDoor

namespace Go.Proofs.YtnfabgbidkddhaaGreatDoor
open Go.RowKit


/-- The value is what a key is. -/
def AskAt (w : World) : Ask → Value → Prop
  | .all, v => v = .func (.func 66) #[] #[]
  | .keyword, v => v = .func (.func 67) #[] #[]
  | .on, v => v = .func (.func 69) #[] #[]
  | .header, v => v = .func (.func 70) #[] #[]
  | .uid, v => v = .func (.func 71) #[] #[]
  | .modseq, v => v = .func (.func 72) #[] #[]
  | .not, v => v = .func (.func 73) #[] #[]
  | .or, v => v = .func (.func 74) #[] #[]
  | .time k, v => ∃ b, v = .func (.func 110) #[] #[.pointer (some ⟨b, 0, none⟩)] ∧ Blk w b 3 #[.int .i64 k]
  | .counts k m, v => ∃ b b', v = .func (.func 111) #[] #[.pointer (some ⟨b, 0, none⟩), .pointer (some ⟨b', 0, none⟩)] ∧ Blk w b 3 #[.int .i64 k] ∧ Blk w b' 3 #[.int .i64 m]
  | .says k, v => ∃ b, v = .func (.func 112) #[] #[.pointer (some ⟨b, 0, none⟩)] ∧ Blk w b 3 #[.int .i64 k]
  | .head n, v => ∃ b, v = .func (.func 113) #[] #[.pointer (some ⟨b, 0, none⟩)] ∧ Blk w b 9 #[.string n]
  | .has k, v => ∃ b, v = .func (.func 114) #[] #[.pointer (some ⟨b, 0, none⟩)] ∧ Blk w b 9 #[.string k]
  | .un a, v => ∃ b f, v = .func (.func 107) #[] #[.pointer (some ⟨b, 0, none⟩)] ∧ Blk w b 98 #[f] ∧ AskAt w a f

/-- What was cells is as it was. -/
def BKeep (w w' : World) : Prop := ∀ g t cs, Blk w g t cs → Blk w' g t cs
theorem BKeep.below {w w' : World} (hb : Below w.heap.size w w') : BKeep w w' := fun _ _ _ h => h.below hb h.lt
theorem BKeep.map {w w' : World} {b : Nat} {m : List (ByteArray × Value)} (hm : MapS w b m) (hc : Chg [b] w w') : BKeep w w' := fun g t cs h => h.chg hc (by
  simp only [List.mem_singleton]
  exact fun e => hm.ne_blk h e.symm)
theorem BKeep.entry {w w' : World} {b c : Nat} {m : List (ByteArray × Value)} {x : ByteArray} (hm : EntryAt w b m x c) (hc : Chg [b] w w') : BKeep w w' := fun g t cs h => h.chg hc (by
  simp only [List.mem_singleton]
  rintro rfl
  obtain ⟨es, z, h1, _⟩ := hm
  unfold Blk at h
  rw [h1] at h
  cases h)
theorem AskAt.keep {w w' : World} (hk : BKeep w w') : ∀ (a : Ask) (v : Value), AskAt w a v → AskAt w' a v
  | .all, _, h => h
  | .keyword, _, h => h
  | .on, _, h => h
  | .header, _, h => h
  | .uid, _, h => h
  | .modseq, _, h => h
  | .not, _, h => h
  | .or, _, h => h
  | .time _, _, ⟨b, h1, h2⟩ => ⟨b, h1, hk _ _ _ h2⟩
  | .counts _ _, _, ⟨b, b', h1, h2, h3⟩ => ⟨b, b', h1, hk _ _ _ h2, hk _ _ _ h3⟩
  | .says _, _, ⟨b, h1, h2⟩ => ⟨b, h1, hk _ _ _ h2⟩
  | .head _, _, ⟨b, h1, h2⟩ => ⟨b, h1, hk _ _ _ h2⟩
  | .has _, _, ⟨b, h1, h2⟩ => ⟨b, h1, hk _ _ _ h2⟩
  | .un a, _, ⟨b, f, h1, h2, h3⟩ => ⟨b, f, h1, hk _ _ _ h2, AskAt.keep hk a f h3⟩

/-- It is a function, with what it holds. -/
theorem AskAt.form {w : World} : ∀ {a : Ask} {v : Value}, AskAt w a v → ∃ n caps, v = .func (.func n) #[] caps
  | .all, _, h => ⟨_, _, h⟩
  | .keyword, _, h => ⟨_, _, h⟩
  | .on, _, h => ⟨_, _, h⟩
  | .header, _, h => ⟨_, _, h⟩
  | .uid, _, h => ⟨_, _, h⟩
  | .modseq, _, h => ⟨_, _, h⟩
  | .not, _, h => ⟨_, _, h⟩
  | .or, _, h => ⟨_, _, h⟩
  | .time _, _, ⟨_, h, _⟩ => ⟨_, _, h⟩
  | .counts _ _, _, ⟨_, _, h, _⟩ => ⟨_, _, h⟩
  | .says _, _, ⟨_, h, _⟩ => ⟨_, _, h⟩
  | .head _, _, ⟨_, h, _⟩ => ⟨_, _, h⟩
  | .has _, _, ⟨_, h, _⟩ => ⟨_, _, h⟩
  | .un _, _, ⟨_, _, h, _⟩ => ⟨_, _, h⟩

/-- The table's closures are these keys. -/
def TabAt (w : World) : List (ByteArray × Value) → List (ByteArray × Ask) → Prop
  | [], [] => True
  | p :: m, q :: t => p.1 = q.1 ∧ AskAt w q.2 p.2 ∧ TabAt w m t
  | _, _ => False
theorem TabAt.keep {w w' : World} (hk : BKeep w w') : ∀ (m : List (ByteArray × Value)) (t : List (ByteArray × Ask)), TabAt w m t → TabAt w' m t
  | [], [], _ => trivial
  | _ :: m, _ :: t, ⟨h1, h2, h3⟩ => ⟨h1, AskAt.keep hk _ _ h2, TabAt.keep hk m t h3⟩
  | [], _ :: _, h => h.elim
  | _ :: _, [], h => h.elim
theorem TabAt.put {w : World} {a : Ask} {v : Value} (hv : AskAt w a v) (x : ByteArray) : ∀ (m : List (ByteArray × Value)) (t : List (ByteArray × Ask)), TabAt w m t → TabAt w (putS m x v) (putS t x a)
  | [], [], _ => ⟨rfl, hv, trivial⟩
  | p :: m, q :: t, ⟨h1, h2, h3⟩ => by
    unfold putS
    rw [h1]
    by_cases h : (q.1 == x) = true
    · rw [if_pos h, if_pos h]
      exact ⟨rfl, hv, h3⟩
    · rw [if_neg h, if_neg h]
      exact ⟨h1, h2, TabAt.put hv x m t h3⟩
  | [], _ :: _, h => h.elim
  | _ :: _, [], h => h.elim
theorem TabAt.get {w : World} (x : ByteArray) : ∀ (m : List (ByteArray × Value)) (t : List (ByteArray × Ask)), TabAt w m t → (getS t x = none ∧ getS m x = none) ∨ ∃ a v, getS t x = some a ∧ getS m x = some v ∧ AskAt w a v
  | [], [], _ => .inl ⟨rfl, rfl⟩
  | p :: m, q :: t, ⟨h1, h2, h3⟩ => by
    by_cases h : (q.1 == x) = true
    · refine .inr ⟨q.2, p.2, ?_, ?_, h2⟩
      · simp [getS, h]
      · rw [← h1] at h
        simp [getS, h]
    · have e1 : getS (q :: t) x = getS t x := by simp [getS, h]
      have e2 : getS (p :: m) x = getS m x := by rw [← h1] at h; simp [getS, h]
      rw [e1, e2]
      exact TabAt.get x m t h3
  | [], _ :: _, h => h.elim
  | _ :: _, [], h => h.elim

/-- A table in the making. -/
structure KMap (w0 w : World) (b : Nat) (m : List (ByteArray × Value)) (t : List (ByteArray × Ask)) : Prop where
  map : MapS w b m
  tab : TabAt w m t
  bel : Below w0.heap.size w0 w
  lo : w0.heap.size ≤ b
theorem KMap.below {w0 w w' : World} {b : Nat} {m : List (ByteArray × Value)} {t : List (ByteArray × Ask)} (k : KMap w0 w b m t) (hb : Below w.heap.size w w') : KMap w0 w' b m t :=
  ⟨k.map.keep (hb.block b k.map.lt), TabAt.keep (BKeep.below hb) _ _ k.tab, k.bel.trans (hb.mono k.bel.size), k.lo⟩
theorem KMap.put {w0 w w' : World} {b : Nat} {m : List (ByteArray × Value)} {t : List (ByteArray × Ask)} (k : KMap w0 w b m t) {x : ByteArray} {v : Value} {a : Ask} (hv : AskAt w a v) (h1 : MapS w' b (putS m x v)) (h2 : Chg [b] w w') : KMap w0 w' b (putS m x v) (putS t x a) :=
  ⟨h1, TabAt.keep (BKeep.map k.map h2) _ _ (TabAt.put hv x m t k.tab), k.bel.trans (h2.below k.bel.size (by simpa using k.lo)), k.lo⟩

/-- The closure is made. -/
def Made (w : World) (a : Ask) (e : Ending) (w' : World) : Prop := ∃ v, e = .returned v ∧ AskAt w' a v ∧ Below w.heap.size w w'

set_option maxRecDepth 100000 in
theorem has_anyC (k : ByteArray) (w : World) : Calls Tryz.prog 79 #[.string k] w (Made w (.has k)) := by
  go_enter Tryz.func79, Tryz.ntmps79
  go_wp2
  go_ret
  exact ⟨_, rfl, ⟨_, rfl, Blk.new _ _ _⟩, (Below.refl _ _).alloc (Nat.le_refl _) _⟩
set_option maxRecDepth 100000 in
theorem head_anyC (k : ByteArray) (w : World) : Calls Tryz.prog 78 #[.string k] w (Made w (.head k)) := by
  go_enter Tryz.func78, Tryz.ntmps78
  go_wp2
  go_ret
  exact ⟨_, rfl, ⟨_, rfl, Blk.new _ _ _⟩, (Below.refl _ _).alloc (Nat.le_refl _) _⟩
set_option maxRecDepth 100000 in
theorem says_anyC (k : Int) (w : World) : Calls Tryz.prog 77 #[.int .i64 k] w (Made w (.says k)) := by
  go_enter Tryz.func77, Tryz.ntmps77
  go_wp2
  go_ret
  exact ⟨_, rfl, ⟨_, rfl, Blk.new _ _ _⟩, (Below.refl _ _).alloc (Nat.le_refl _) _⟩
set_option maxRecDepth 100000 in
theorem time_anyC (k : Int) (w : World) : Calls Tryz.prog 75 #[.int .i64 k] w (Made w (.time k)) := by
  go_enter Tryz.func75, Tryz.ntmps75
  go_wp2
  go_ret
  exact ⟨_, rfl, ⟨_, rfl, Blk.new _ _ _⟩, (Below.refl _ _).alloc (Nat.le_refl _) _⟩
set_option maxRecDepth 100000 in
theorem counts_anyC (k m : Int) (w : World) : Calls Tryz.prog 76 #[.int .i64 k, .int .i64 m] w (Made w (.counts k m)) := by
  go_enter Tryz.func76, Tryz.ntmps76
  go_wp2
  go_ret
  refine ⟨_, rfl, ⟨_, _, rfl, (Blk.new w _ _).alloc _, ?_⟩, ((Below.refl _ _).alloc (Nat.le_refl _) _).alloc (by simp) _⟩
  have := Blk.new (w.alloc (.cells #[.int .i64 k] 3)) 3 #[.int .i64 m]
  simpa using this
set_option maxRecDepth 100000 in
theorem not_anyC (a : Ask) (fv : Value) (w : World) (hf : AskAt w a fv) : Calls Tryz.prog 68 #[fv] w (Made w (.un a)) := by
  obtain ⟨n, caps, rfl⟩ := hf.form
  have HF := Lib.hid hf
  clear hf
  go_enter Tryz.func68, Tryz.ntmps68
  go_wp2
  go_ret
  exact ⟨_, rfl, ⟨_, _, rfl, Blk.new _ _ _, AskAt.keep (BKeep.below ((Below.refl _ _).alloc (Nat.le_refl _) _)) _ _ HF.out⟩, (Below.refl _ _).alloc (Nat.le_refl _) _⟩

end Go.Proofs.YtnfabgbidkddhaaGreatDoor
