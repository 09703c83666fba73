/-
  Maps by texts, as the call's own memory holds them: what is looked up, what is stored. Over any program.
  What a key is, and the table of the keys, plain.
  What words ask for, as terms, plain: no program in sight.
  Words, terms and the reader of crit in memory; what a step of the reader keeps.
  The walks of crit's put, over, word, number.
  The walks of crit's over, word, number.
-/
import Derived.Test.YtnfabgbidkddhaaGreatDoorGCB
import Derived.Test.YtnfabgbidkddhaaGreatDoorGCA
import Derived.Test.YtnfabgbidkddhaaGreatDoorGRA
import Derived.MapKept
import Derived.Deep.RegionLaw
import Derived.Deep.RegionHeld3
import Derived.Deep.DrawnRows
import Derived.Deep.DeepCutAuto
namespace Go.Proofs.YtnfabgbidkddhaaGreatDoor
open Go.RowKit

instance : LawfulBEq ByteArray where
  eq_of_beq h := (MapKept.bytes_beq _ _).1 h
  rfl := (MapKept.bytes_beq _ _).2 rfl

/-- Block b is a map by texts that holds just these, in this order. -/
def MapS (w : World) (b : Nat) (m : List (ByteArray × Value)) : Prop :=
  ∃ es clock, w.heap[b]? = some (.map es clock) ∧ es.toList.map (fun e => (e.key, e.val)) = (m.map fun p => (Value.string p.1, p.2)) ∧ ∀ e ∈ es.toList, e.born < clock

/-- What a key has. -/
def getS {α : Type} (m : List (ByteArray × α)) (x : ByteArray) : Option α := (m.find? (fun p => p.1 == x)).map (·.2)
/-- A key set. -/
def putS {α : Type} : List (ByteArray × α) → ByteArray → α → List (ByteArray × α)
  | [], x, v => [(x, v)]
  | p :: r, x, v => if p.1 == x then (x, v) :: r else p :: putS r x v

theorem getS_nil {α : Type} (x : ByteArray) : getS ([] : List (ByteArray × α)) x = none := rfl
theorem getS_put_same {α : Type} : ∀ (m : List (ByteArray × α)) (x : ByteArray) (v : α), getS (putS m x v) x = some v
  | [], x, v => by simp [putS, getS]
  | p :: r, x, v => by
    unfold putS
    by_cases h : p.1 == x
    · simp [h, getS]
    · have ih := getS_put_same r x v
      simp only [getS] at ih ⊢
      simp only [h, Bool.false_eq_true, if_false, List.find?_cons]
      exact ih
theorem getS_put_other {α : Type} : ∀ (m : List (ByteArray × α)) (x y : ByteArray) (v : α), x ≠ y → getS (putS m x v) y = getS m y
  | [], x, y, v, h => by simp [putS, getS, h]
  | p :: r, x, y, v, h => by
    have ih := getS_put_other r x y v h
    unfold putS
    by_cases h1 : p.1 == x
    · have h2 : (p.1 == y) = false := by
        rw [beq_iff_eq] at h1
        rw [beq_eq_false_iff_ne, h1]
        exact h
      have h3 : (x == y) = false := by rw [beq_eq_false_iff_ne]; exact h
      simp [h1, getS, h2, h3]
    · simp only [h1, Bool.false_eq_true, if_false]
      simp only [getS, List.find?_cons] at ih ⊢
      cases h2 : p.1 == y
      · exact ih
      · rfl

section
variable {P : Program} {w w' : World} {b : Nat} {m : List (ByteArray × Value)}

theorem MapS.lt (h : MapS w b m) : b < w.heap.size := by
  obtain ⟨es, c, hb, _⟩ := h
  exact (Array.getElem?_eq_some_iff.1 hb).1
theorem MapS.keep (h : MapS w b m) (hk : w'.heap[b]? = w.heap[b]?) : MapS w' b m := by
  obtain ⟨es, c, hb, he, hst⟩ := h
  exact ⟨es, c, hk.trans hb, he, hst⟩
theorem MapS.chg {S : List Nat} (h : MapS w b m) (hc : Chg S w w') (hn : b ∉ S) : MapS w' b m := h.keep (hc.block b h.lt hn)
theorem MapS.alloc (h : MapS w b m) (o : Obj) : MapS (w.alloc o) b m := h.keep (Below.heap_alloc w o b h.lt)
theorem MapS.new (w : World) : MapS (w.alloc (.map #[] 0)) w.heap.size [] := ⟨#[], 0, by show (w.heap.push _)[w.heap.size]? = _; simp, rfl, by simp⟩
theorem MapS.ne_blk {g : Nat} {t : TypeId} {cs : Array Value} (h : MapS w b m) (hb : Blk w g t cs) : b ≠ g := by
  rintro rfl
  obtain ⟨es, c, h1, _⟩ := h
  unfold Blk at hb
  rw [h1] at hb
  cases hb

theorem findNow_str (x : ByteArray) : ∀ (es : List MapEntry) (m : List (ByteArray × Value)) (i : Nat), es.map (fun e => (e.key, e.val)) = m.map (fun p => (Value.string p.1, p.2)) →
    ∃ j, Instr.findNow .string (.string x) es i = some ((getS m x).map fun v => (j, v)) ∧
      (∀ v, getS m x = some v → i ≤ j ∧ (∃ e, es[j - i]? = some e ∧ e.key = .string x)) ∧
      ∀ (v : Value) (k : Value → MapEntry → MapEntry), getS m x ≠ none → (∀ e, (k v e).val = v) → (∀ e, e.key = .string x → (k v e).key = .string x) → (es.modify (j - i) (k v)).map (fun e => (e.key, e.val)) = (putS m x v).map (fun p => (Value.string p.1, p.2))
  | [], [], i, _ => ⟨0, rfl, (fun v h => by simp [getS] at h), (fun v k h _ _ => absurd rfl h)⟩
  | [], p :: r, i, h => by simp at h
  | e :: es, [], i, h => by simp at h
  | e :: es, p :: r, i, h => by
    simp only [List.map_cons, List.cons.injEq, Prod.mk.injEq] at h
    obtain ⟨⟨hk, hv⟩, ht⟩ := h
    by_cases hx : p.1 = x
    · have hpx : (p.1 == x) = true := by simpa using hx
      have hg : getS (p :: r) x = some p.2 := by simp [getS, hpx]
      refine ⟨i, ?_, ?_, ?_⟩
      · simp only [Instr.findNow, Instr.sameNow, hk]
        have : (x == p.1) = true := by simp [hx]
        rw [this, hg, hv]
        rfl
      · intro v hv2
        exact ⟨Nat.le_refl _, e, by simp, by rw [hk, hx]⟩
      · intro v k _ h1 h2
        have hpp : putS (p :: r) x v = (x, v) :: r := by simp [putS, hpx]
        rw [hpp, Nat.sub_self]
        simp only [List.modify_zero_cons, List.map_cons, List.cons.injEq, Prod.mk.injEq]
        exact ⟨⟨h2 e (by rw [hk, hx]), h1 e⟩, ht⟩
    · have hpx : (p.1 == x) = false := by rw [beq_eq_false_iff_ne]; exact hx
      obtain ⟨j, h1, h2, h3⟩ := findNow_str x es r (i + 1) ht
      have hg : getS (p :: r) x = getS r x := by simp [getS, hpx]
      refine ⟨j, ?_, ?_, ?_⟩
      · simp only [Instr.findNow, Instr.sameNow, hk]
        have : (x == p.1) = false := by rw [beq_eq_false_iff_ne]; exact fun e => hx e.symm
        rw [this, hg]
        exact h1
      · intro v hv2
        rw [hg] at hv2
        obtain ⟨a, e2, he2, he3⟩ := h2 v hv2
        refine ⟨by omega, e2, ?_, he3⟩
        rw [show j - i = (j - (i + 1)) + 1 from by omega]
        simpa using he2
      · intro v k hne h4 h5
        rw [hg] at hne
        have hle : i + 1 ≤ j := by
          cases hgr : getS r x with
          | none => exact absurd hgr hne
          | some u => exact (h2 u hgr).1
        have h6 := h3 v k hne h4 h5
        have hpp : putS (p :: r) x v = p :: putS r x v := by simp [putS, hpx]
        rw [hpp, show j - i = (j - (i + 1)) + 1 from by omega]
        simp only [List.modify_succ_cons, List.map_cons, h6, hk, hv]

set_option maxRecDepth 100000 in
/-- 'v, ok := m[k]'. -/
theorem run_lookup_str {t kt e : TypeId} (ht : P.underlying t = some (.map kt e)) (hk : P.underlying kt = some .string) {z : Value} (hz : ∀ w, (zeroValue e).run P w = .ok z w)
    (h : MapS w b m) (x : ByteArray) : (Instr.lookup t (.map (some b)) (.string x) true).run P w = .ok (.tuple #[(getS m x).getD z, .bool (getS m x).isSome]) w := by
  obtain ⟨es, c, hb, he, hst⟩ := h
  obtain ⟨j, h1, _, _⟩ := findNow_str x es.toList m 0 he
  have hck : ∀ empty, (Instr.checkKey empty 10000 kt (.string x)).run P w = .ok () w := fun empty => MapKept.run_checkKey hk (by simp [MapKept.IsKey]) empty 9999
  cases hg : getS m x with
  | none =>
    rw [hg] at h1
    simp [Instr.lookup, run_underlying ht, MapKept.run_getObj_map hb, hck, Instr.findKey, run_underlying hk, h1, hz, Result.andThen]
  | some v =>
    rw [hg] at h1
    simp [Instr.lookup, run_underlying ht, MapKept.run_getObj_map hb, hck, Instr.findKey, run_underlying hk, h1, Result.andThen]
set_option maxRecDepth 100000 in
/-- 'v := m[k]'. -/
theorem run_lookup_str1 {t kt e : TypeId} (ht : P.underlying t = some (.map kt e)) (hk : P.underlying kt = some .string) {z : Value} (hz : ∀ w, (zeroValue e).run P w = .ok z w)
    (h : MapS w b m) (x : ByteArray) : (Instr.lookup t (.map (some b)) (.string x) false).run P w = .ok ((getS m x).getD z) w := by
  obtain ⟨es, c, hb, he, hst⟩ := h
  obtain ⟨j, h1, _, _⟩ := findNow_str x es.toList m 0 he
  have hck : ∀ empty, (Instr.checkKey empty 10000 kt (.string x)).run P w = .ok () w := fun empty => MapKept.run_checkKey hk (by simp [MapKept.IsKey]) empty 9999
  cases hg : getS m x with
  | none =>
    rw [hg] at h1
    simp [Instr.lookup, run_underlying ht, MapKept.run_getObj_map hb, hck, Instr.findKey, run_underlying hk, h1, hz, Result.andThen]
  | some v =>
    rw [hg] at h1
    simp [Instr.lookup, run_underlying ht, MapKept.run_getObj_map hb, hck, Instr.findKey, run_underlying hk, h1, Result.andThen]
set_option maxRecDepth 100000 in
/-- 'm[k] = v'. -/
theorem run_mapUpdate_str {t kt e : TypeId} (ht : P.underlying t = some (.map kt e)) (hk : P.underlying kt = some .string)
    (h : MapS w b m) (x : ByteArray) (v : Value) : ∃ w', (Instr.mapUpdate t (.map (some b)) (.string x) v).run P w = .ok () w' ∧ MapS w' b (putS m x v) ∧ Chg [b] w w' := by
  obtain ⟨es, c, hb, he, hst⟩ := h
  have hlt := (Array.getElem?_eq_some_iff.1 hb).1
  obtain ⟨j, h1, h2, h3⟩ := findNow_str x es.toList m 0 he
  have hck : ∀ empty, (Instr.checkKey empty 10000 kt (.string x)).run P w = .ok () w := fun empty => MapKept.run_checkKey hk (by simp [MapKept.IsKey]) empty 9999
  have hchg : ∀ o : Obj, Chg [b] w { w with heap := w.heap.setIfInBounds b o } := fun o =>
    ⟨rfl, rfl, rfl, by simp, fun k _ hn => by
      have : b ≠ k := fun e => hn (by simp [e])
      simp [this]⟩
  cases hg : getS m x with
  | none =>
    rw [hg] at h1
    refine ⟨{ w with heap := w.heap.setIfInBounds b (.map (es.push { key := .string x, val := v, born := c }) (c + 1)) }, ?_, ⟨es.push { key := .string x, val := v, born := c }, c + 1, by simp [hlt], ?_, ?_⟩, hchg _⟩
    · simp [Instr.mapUpdate, run_underlying ht, MapKept.run_getObj_map hb, hck, Instr.findKey, run_underlying hk, h1, MapKept.run_setObj_map _ hb, Result.andThen]
    · have hput : putS m x v = m ++ [(x, v)] := by
        clear h1 h2 h3 he
        induction m with
        | nil => rfl
        | cons p r ih =>
          have hp : (p.1 == x) = false := by
            cases hp : p.1 == x
            · rfl
            · simp [getS, hp] at hg
          have hr : getS r x = none := by
            have : getS (p :: r) x = getS r x := by simp [getS, hp]
            rw [← this]
            exact hg
          simp [putS, hp, ih hr]
      rw [hput]
      simp [he]
    · intro e hm
      simp only [Array.toList_push, List.mem_append, List.mem_singleton] at hm
      rcases hm with hm | rfl
      · exact Nat.lt_succ_of_lt (hst e hm)
      · exact Nat.lt_succ_self _
  | some u =>
    rw [hg] at h1
    obtain ⟨_, e0, he0, hek⟩ := h2 u hg
    have he0' : es[j]? = some e0 := by simpa using he0
    refine ⟨{ w with heap := w.heap.setIfInBounds b (.map (es.modify j fun e => { e with key := .string x, val := v }) c) }, ?_, ⟨es.modify j fun e => { e with key := .string x, val := v }, c, by simp [hlt], ?_, ?_⟩, hchg _⟩
    · simp [Instr.mapUpdate, run_underlying ht, MapKept.run_getObj_map hb, hck, Instr.findKey, run_underlying hk, h1, MapKept.run_setObj_map _ hb, Result.andThen, he0', hek, Instr.keyThatStays, Instr.sameBits]
    · have h4 := h3 v (fun v e => { e with key := .string x, val := v }) (by rw [hg]; simp) (fun _ => rfl) (fun _ _ => rfl)
      simpa using h4
    · intro e hm
      rw [Array.toList_modify] at hm
      rcases List.mem_iff_getElem?.1 hm with ⟨i, hi⟩
      rw [List.getElem?_modify] at hi
      cases hgi : es.toList[i]? with
      | none => rw [hgi] at hi; simp at hi
      | some e1 =>
        rw [hgi] at hi
        have hb1 := hst e1 (List.mem_of_getElem? hgi)
        simp only [Option.map_eq_map, Option.map_some, Option.some.injEq] at hi
        rw [← hi]
        split <;> exact hb1
end


section
variable {P : Program} {w w' : World} {b : Nat} {m : List (ByteArray × Value)}
/-- An entry of the map b is held by its stamp c: the key x, that was not there. -/
def EntryAt (w : World) (b : Nat) (m : List (ByteArray × Value)) (x : ByteArray) (c : Nat) : Prop :=
  ∃ (es : Array MapEntry) (z : Value), w.heap[b]? = some (.map (es.push { key := .string x, val := z, born := c }) (c + 1)) ∧ es.toList.map (fun e => (e.key, e.val)) = (m.map fun p => (Value.string p.1, p.2)) ∧ (∀ e ∈ es.toList, e.born < c) ∧ getS m x = none
theorem putS_new {α : Type} : ∀ (m : List (ByteArray × α)) (x : ByteArray) (v : α), getS m x = none → putS m x v = m ++ [(x, v)]
  | [], _, _, _ => rfl
  | p :: r, x, v, h => by
    have hp : (p.1 == x) = false := by
      cases hp : p.1 == x
      · rfl
      · simp [getS, hp] at h
    have hr : getS r x = none := by
      have : getS (p :: r) x = getS r x := by simp [getS, hp]
      rw [← this]
      exact h
    simp [putS, hp, putS_new r x v hr]
set_option maxRecDepth 100000 in
theorem run_mapEntry_str {t kt e : TypeId} (ht : P.underlying t = some (.map kt e)) (hk : P.underlying kt = some .string) {z : Value} (hz : ∀ w, (zeroValue e).run P w = .ok z w)
    (h : MapS w b m) (x : ByteArray) (hx : getS m x = none) : ∃ c w', (Instr.mapEntry t (.map (some b)) (.string x)).run P w = .ok (.tuple #[z, .int .i64 (c : Nat)]) w' ∧ EntryAt w' b m x c ∧ Chg [b] w w' := by
  obtain ⟨es, c, hb, he, hst⟩ := h
  have hlt := (Array.getElem?_eq_some_iff.1 hb).1
  obtain ⟨j, h1, _, _⟩ := findNow_str x es.toList m 0 he
  have hck : ∀ empty, (Instr.checkKey empty 10000 kt (.string x)).run P w = .ok () w := fun empty => MapKept.run_checkKey hk (by simp [MapKept.IsKey]) empty 9999
  rw [hx] at h1
  refine ⟨c, { w with heap := w.heap.setIfInBounds b (.map (es.push { key := .string x, val := z, born := c }) (c + 1)) }, ?_, ⟨es, z, by simp [hlt], he, hst, hx⟩, ⟨rfl, rfl, rfl, by simp, fun k _ hn => by
      have : b ≠ k := fun e => hn (by simp [e])
      simp [this]⟩⟩
  simp [Instr.mapEntry, run_underlying ht, MapKept.run_getObj_map hb, hck, Instr.findKey, run_underlying hk, h1, hz, MapKept.run_setObj_map _ hb, Result.andThen, goInt]
set_option maxRecDepth 100000 in
theorem run_entryStore_str {t : TypeId} {x : ByteArray} {c : Nat} (h : EntryAt w b m x c) (v : Value) : ∃ w', (Instr.entryStore t (.map (some b)) (.int .i64 (c : Nat)) v).run P w = .ok () w' ∧ MapS w' b (putS m x v) ∧ Chg [b] w w' := by
  obtain ⟨es, z, hb, he, hst, hx⟩ := h
  have hlt := (Array.getElem?_eq_some_iff.1 hb).1
  have hfi : (es.push { key := .string x, val := z, born := c }).findIdx? (fun e => (e.born : Int) == (c : Int)) = some es.size := by
    rw [Array.findIdx?_push, Array.findIdx?_eq_none_iff.2 fun y hy => by
      have := hst y (by simpa using hy)
      simp only [beq_eq_false_iff_ne, ne_eq]
      omega]
    simp
  refine ⟨{ w with heap := w.heap.setIfInBounds b (.map ((es.push { key := .string x, val := z, born := c }).modify es.size fun e => { e with val := v }) (c + 1)) }, ?_, ⟨((es.push { key := .string x, val := z, born := c }).modify es.size fun e => { e with val := v }), c + 1, by simp [hlt], ?_, ?_⟩, ⟨rfl, rfl, rfl, by simp, fun k _ hn => by
      have : b ≠ k := fun e => hn (by simp [e])
      simp [this]⟩⟩
  · simp [Instr.entryStore, MapKept.run_getObj_map hb, asInt, asIntOf, hfi, MapKept.run_setObj_map _ hb, Result.andThen]
  · rw [putS_new m x v hx]
    have : ((es.push { key := .string x, val := z, born := c }).modify es.size fun e => { e with val := v }).toList = es.toList ++ [{ key := .string x, val := v, born := c }] := by
      rw [Array.toList_modify, Array.toList_push]
      apply List.ext_getElem?
      intro i
      rw [List.getElem?_modify]
      by_cases hi : i < es.size
      · rw [List.getElem?_append_left (by simpa using hi), List.getElem?_append_left (by simpa using hi)]
        have hne : ¬ es.size = i := by omega
        simp [hne]
      · rw [List.getElem?_append_right (by simpa using hi), List.getElem?_append_right (by simpa using hi), Array.length_toList]
        by_cases h0 : i = es.size
        · subst h0
          simp
        · rw [List.getElem?_eq_none (by simp; omega), List.getElem?_eq_none (by simp; omega)]
          rfl
    rw [this]
    simp [he]
  · intro e hm
    rw [Array.toList_modify] at hm
    rcases List.mem_iff_getElem?.1 hm with ⟨i, hi⟩
    rw [List.getElem?_modify] at hi
    cases hgi : (es.push { key := .string x, val := z, born := c }).toList[i]? with
    | none => rw [hgi] at hi; simp at hi
    | some e1 =>
      rw [hgi] at hi
      have hb1 : e1.born < c + 1 := by
        have hm1 := List.mem_of_getElem? hgi
        simp only [Array.toList_push, List.mem_append, List.mem_singleton] at hm1
        rcases hm1 with hm1 | rfl
        · exact Nat.lt_succ_of_lt (hst e1 hm1)
        · exact Nat.lt_succ_self _
      simp only [Option.map_eq_map, Option.map_some, Option.some.injEq] at hi
      rw [← hi]
      split <;> exact hb1
end

end Go.Proofs.YtnfabgbidkddhaaGreatDoor

namespace Go.Proofs.YtnfabgbidkddhaaGreatDoor
open Go.RowKit

/-- What a key is. -/
inductive Ask where
  | all | keyword | on | header | uid | modseq | not | or
  | time (k : Int) | counts (k more : Int) | says (k : Int) | head (n : ByteArray) | has (k : ByteArray)
  | un (a : Ask)
/-- How many terms it puts at most. -/
def Ask.cost : Ask → Nat
  | .on => 3
  | .un a => a.cost + 1
  | _ => 1
def Ask.plain : Ask → Prop
  | .not => False
  | .or => False
  | .un a => a.plain
  | _ => True

/-- The keys but those of flags. -/
def baseTab : List (ByteArray × Ask) := [
  (⟨#[97, 108, 108]⟩, .all),
  (⟨#[107, 101, 121, 119, 111, 114, 100]⟩, .keyword),
  (⟨#[117, 110, 107, 101, 121, 119, 111, 114, 100]⟩, .un .keyword),
  (⟨#[111, 110]⟩, .on),
  (⟨#[104, 101, 97, 100, 101, 114]⟩, .header),
  (⟨#[117, 105, 100]⟩, .uid),
  (⟨#[109, 111, 100, 115, 101, 113]⟩, .modseq),
  (⟨#[110, 111, 116]⟩, .not),
  (⟨#[111, 114]⟩, .or),
  (⟨#[98, 101, 102, 111, 114, 101]⟩, .time 7),
  (⟨#[115, 105, 110, 99, 101]⟩, .time 8),
  (⟨#[108, 97, 114, 103, 101, 114]⟩, .counts 9 1),
  (⟨#[115, 109, 97, 108, 108, 101, 114]⟩, .counts 10 0),
  (⟨#[98, 111, 100, 121]⟩, .says 13),
  (⟨#[116, 101, 120, 116]⟩, .says 11),
  (⟨#[115, 117, 98, 106, 101, 99, 116]⟩, .head ⟨#[83, 117, 98, 106, 101, 99, 116]⟩),
  (⟨#[102, 114, 111, 109]⟩, .head ⟨#[70, 114, 111, 109]⟩),
  (⟨#[116, 111]⟩, .head ⟨#[84, 111]⟩),
  (⟨#[99, 99]⟩, .head ⟨#[67, 99]⟩)]
/-- The flags' names. -/
def flagNames : List (List UInt8) := [[97, 110, 115, 119, 101, 114, 101, 100], [100, 101, 108, 101, 116, 101, 100], [100, 114, 97, 102, 116], [102, 108, 97, 103, 103, 101, 100], [115, 101, 101, 110]]
def flagRows (k : List UInt8) : List (ByteArray × Ask) := [(⟨k.toArray⟩, .has ⟨(36 :: k).toArray⟩), (⟨(117 :: 110 :: k).toArray⟩, .un (.has ⟨(36 :: k).toArray⟩))]
def askTab : List (ByteArray × Ask) := baseTab ++ flagNames.flatMap flagRows
def askOf (t : ByteArray) : Option Ask := getS askTab t

end Go.Proofs.YtnfabgbidkddhaaGreatDoor

namespace Go.Proofs.YtnfabgbidkddhaaGreatDoor
open Go.RowKit

/-- A word: its kind, its text, its words. -/
inductive WT where
  | mk (kind : Int) (text : ByteArray) (kids : List WT)
def WT.kind : WT → Int | .mk k _ _ => k
def WT.text : WT → ByteArray | .mk _ t _ => t
def WT.kids : WT → List WT | .mk _ _ l => l
mutual
/-- How many words there are in a word, in a list. -/
def szW : WT → Nat | .mk _ _ l => 1 + szL l
def szL : List WT → Nat
  | [] => 0
  | t :: ts => szW t + szL ts
end
mutual
/-- No text is long. -/
def okW : WT → Prop | .mk _ t l => t.size ≤ 1100 ∧ okL l
def okL : List WT → Prop
  | [] => True
  | t :: ts => okW t ∧ okL ts
end

/-- A term of a filter. -/
structure Tm where
  kind : Int
  n : Int
  name : ByteArray
  text : ByteArray
  set : List Rg
  kids : List Int
abbrev Out := List Tm
def tmN (kind n : Int) : Tm := ⟨kind, n, .empty, .empty, [], []⟩
def tmT (kind : Int) (name text : ByteArray) : Tm := ⟨kind, 0, name, text, [], []⟩
def tmK (kind : Int) (kids : List Int) : Tm := ⟨kind, 0, .empty, .empty, [], kids⟩
def tmS (n : Int) (set : List Rg) : Tm := ⟨14, n, .empty, .empty, set, []⟩

/-- The mailbox, its numbers. -/
structure CEnv where
  box : Int
  uids : List Int
def CEnv.star (E : CEnv) : Int := E.uids.getLast?.getD 0

abbrev Res := Option (Int × List WT × Out × Bool)

def wordP : List WT → Option (ByteArray × List WT)
  | [] => none
  | .mk k t _ :: ws => if k = 3 then none else some (t, ws)
def numP (ws : List WT) : Option (Int × List WT) := match wordP ws with
  | none => none
  | some (s, r) => if (numberL s.data.toList).2 then some ((numberL s.data.toList).1, r) else none
def dayP (ws : List WT) : Option (Int × List WT) := match wordP ws with
  | none => none
  | some (s, r) => if (dayL s.data.toList).2 = 0 then some ((dayL s.data.toList).1, r) else none

/-- A term behind the others. -/
def putP (t : Tm) (ws : List WT) (out : Out) (mod : Bool) : Res := some (out.length, ws, out ++ [t], mod)
def notP : Res → Res
  | none => none
  | some (k, ws, out, mod) => putP (tmK 3 [k]) ws out mod
def keyB (s : ByteArray) : ByteArray := ⟨(keyOf (lowL s.data.toList)).1.toArray⟩

def stepA (E : CEnv) : Ask → List WT → Out → Bool → Res
  | .all, ws, out, mod => putP (tmK 1 []) ws out mod
  | .keyword, ws, out, mod => match wordP ws with
    | none => none
    | some (s, r) => if (keyOf (lowL s.data.toList)).2 then putP (tmT 6 .empty (keyB s)) r out mod else none
  | .on, ws, out, mod => match dayP ws with
    | none => none
    | some (n, r) => some (out.length + 2, r, out ++ [tmN 8 n] ++ [tmN 7 (n + 86400)] ++ [tmK 1 [out.length, out.length + 1]], mod)
  | .header, ws, out, mod => match wordP ws with
    | none => none
    | some (h, r) => match wordP r with
      | none => none
      | some (s, r2) => putP (tmT 12 h s) r2 out mod
  | .uid, ws, out, mod => match wordP ws with
    | none => none
    | some (s, r) => if (readL s.data.toList E.star).2 = 0 then putP (tmS E.box (readL s.data.toList E.star).1) r out mod else none
  | .modseq, ws, out, _ => match numP ws with
    | none => none
    | some (n, r) => putP (tmN 15 n) r out true
  | .time k, ws, out, mod => match dayP ws with
    | none => none
    | some (n, r) => putP (tmN k n) r out mod
  | .counts k m, ws, out, mod => match numP ws with
    | none => none
    | some (n, r) => putP (tmN k (n + m)) r out mod
  | .says k, ws, out, mod => match wordP ws with
    | none => none
    | some (s, r) => putP (tmT k .empty s) r out mod
  | .head n, ws, out, mod => match wordP ws with
    | none => none
    | some (s, r) => putP (tmT 12 n s) r out mod
  | .has k, ws, out, mod => putP (tmT 6 .empty k) ws out mod
  | .un a, ws, out, mod => notP (stepA E a ws out mod)
  | .not, _, _, _ => none
  | .or, _, _, _ => none

/-- The numbers at places. -/
def placesGo (set : List Rg) : Nat → List Int → List Rg
  | _, [] => []
  | i, u :: us => if inL set ((i : Int) + 1) = true ∧ 0 < u then (u, u) :: placesGo set (i + 1) us else placesGo set (i + 1) us
def placeP (E : CEnv) (s : ByteArray) (ws : List WT) (out : Out) (mod : Bool) : Res :=
  if (readL s.data.toList E.uids.length).2 = 0 then putP (tmS E.box (mergeR (placesGo (readL s.data.toList E.uids.length).1 0 E.uids))) ws out mod else none

/-- All keys, to the end. -/
def wholeP (f : List WT → Out → Bool → Res) : Nat → List WT → Out → Bool → List Int → Option (Int × Out × Bool)
  | _, [], out, mod, kids => if kids = [] then none else some (out.length, out ++ [tmK 1 kids], mod)
  | 0, _ :: _, _, _, _ => none
  | n + 1, t :: ts, out, mod, kids => match f (t :: ts) out mod with
    | none => none
    | some (k, ws, out', mod') => wholeP f n ws out' mod' (kids ++ [k])
def isPlace (t : ByteArray) : Bool := match t.data.toList with
  | [] => false
  | c :: _ => c == 42 || (decide (48 ≤ c) && decide (c ≤ 57))
def orP (f : List WT → Out → Bool → Res) (ws : List WT) (out : Out) (mod : Bool) : Res := match f ws out mod with
  | none => none
  | some (a, ws1, out1, mod1) => match f ws1 out1 mod1 with
    | none => none
    | some (b, ws2, out2, mod2) => putP (tmK 2 [a, b]) ws2 out2 mod2
/-- What a key asks, of those that ask by f for the ones behind it. -/
def askP (E : CEnv) (f : List WT → Out → Bool → Res) : Ask → List WT → Out → Bool → Res
  | .not, ws, out, mod => notP (f ws out mod)
  | .or, ws, out, mod => orP f ws out mod
  | a, ws, out, mod => stepA E a ws out mod
def listP (n : Nat) (f : List WT → Out → Bool → Res) (kids ws : List WT) (out : Out) (mod : Bool) : Res := match wholeP f n kids out mod [] with
  | none => none
  | some (k, out', mod') => some (k, ws, out', mod')
/-- The next key. -/
def keyP (E : CEnv) : Nat → List WT → Out → Bool → Res
  | 0, _, _, _ => none
  | _ + 1, [], _, _ => none
  | n + 1, .mk k t kids :: ws, out, mod =>
    if k = 3 then listP n (keyP E n) kids ws out mod
    else if k ≠ 1 then none
    else if isPlace t = true then placeP E t ws out mod
    else match askOf (lowS t) with
      | none => none
      | some a => askP E (keyP E n) a ws out mod
/-- The filter that words tell, whether it asks for clocks, or the number of an error. -/
def readP (E : CEnv) (ws : List WT) : Out × Bool × Int := match wholeP (keyP E (szL ws)) (szL ws) ws [] false [] with
  | none => ([], false, 3)
  | some (_, out, mod) => if 40 < out.length then ([], false, 13) else (out, mod, 0)

end Go.Proofs.YtnfabgbidkddhaaGreatDoor

namespace Go.Proofs.YtnfabgbidkddhaaGreatDoor
open Go.RowKit

section words
mutual
/-- The value is the slice of a word's words. -/
def WAt (w : World) : WT → Value → Prop
  | .mk _ _ kids, v => ∃ xs, RdS w [] 3 v kids.length xs ∧ CellsAt w kids xs
/-- The cells of words. -/
def CellsAt (w : World) : List WT → List Value → Prop
  | [], xs => xs = []
  | t :: ts, xs => ∃ u rest, xs = .int .i64 t.kind :: .string t.text :: u :: rest ∧ WAt w t u ∧ CellsAt w ts rest
end
/-- The value is a slice of words. -/
def WsAt (w : World) (v : Value) (ws : List WT) : Prop := ∃ xs, RdS w [] 3 v ws.length xs ∧ CellsAt w ws xs

mutual
theorem WAt.below {w w' : World} (hb : Below w.heap.size w w') : ∀ (t : WT) (v : Value), WAt w t v → WAt w' t v
  | .mk _ _ kids, v, h => by
    unfold WAt at h ⊢
    obtain ⟨xs, h1, h2⟩ := h
    exact ⟨xs, h1.below hb, CellsAt.below hb kids xs h2⟩
theorem CellsAt.below {w w' : World} (hb : Below w.heap.size w w') : ∀ (l : List WT) (xs : List Value), CellsAt w l xs → CellsAt w' l xs
  | [], xs, h => by
    unfold CellsAt at h ⊢
    exact h
  | t :: ts, xs, h => by
    unfold CellsAt at h ⊢
    obtain ⟨u, rest, h1, h2, h3⟩ := h
    exact ⟨u, rest, h1, WAt.below hb t u h2, CellsAt.below hb ts rest h3⟩
end
theorem WsAt.below {w w' : World} {v : Value} {ws : List WT} (h : WsAt w v ws) (hb : Below w.heap.size w w') : WsAt w' v ws := by
  obtain ⟨xs, h1, h2⟩ := h
  exact ⟨xs, h1.below hb, CellsAt.below hb ws xs h2⟩
theorem WsAt.form {w : World} {v : Value} {ws : List WT} (h : WsAt w v ws) : ∃ A cap, v = .slice A ws.length cap ∧ ws.length ≤ cap ∧ cap ≤ maxLen := by
  obtain ⟨xs, h1, _⟩ := h
  exact h1.form
theorem WsAt.nil {w : World} {v : Value} (h : RdS w [] 3 v 0 []) : WsAt w v [] := ⟨[], h, by unfold CellsAt; rfl⟩
/-- The first word, and the slice behind it. -/
theorem WsAt.head {w : World} {v : Value} {t : WT} {ws : List WT} (h : WsAt w v (t :: ws)) :
    ∃ b off cap u, v = .slice (some ⟨b, off, none⟩) (ws.length + 1) cap ∧ ws.length + 1 ≤ cap ∧ cap ≤ maxLen ∧ b < w.heap.size ∧
      w.cell? ⟨b, off, none⟩ = some (.int .i64 t.kind) ∧ w.cell? ⟨b, off + 1, none⟩ = some (.string t.text) ∧ w.cell? ⟨b, off + 2, none⟩ = some u ∧
      WsAt w u t.kids ∧ WsAt w (.slice (if cap - 1 = 0 then some ⟨b, off, none⟩ else some ⟨b, off + 3, none⟩) ws.length (cap - 1)) ws := by
  obtain ⟨xs, h1, h2⟩ := h
  unfold CellsAt at h2
  obtain ⟨u, rest, rfl, hu, hr⟩ := h2
  obtain ⟨b, off, cap, hv, hc1, hc2, hlt, _, hat⟩ := h1.at_ (by simp)
  have hl : rest.length = ws.length * 3 := by
    have := h1.1
    simp only [List.length_cons] at this
    omega
  refine ⟨b, off, cap, u, hv, hc1, hc2, hlt, ?_, ?_, ?_, ?_, rest, ?_, hr⟩
  · simpa using hat 0 (by simp only [List.length_cons]; omega)
  · simpa using hat 1 (by simp only [List.length_cons]; omega)
  · simpa using hat 2 (by simp only [List.length_cons]; omega)
  · cases t with
    | mk k tx kids =>
      unfold WAt at hu
      exact hu
  · simp only [List.length_cons] at hc1
    refine ⟨hl, ?_⟩
    by_cases hc : cap - 1 = 0
    · rw [if_pos hc]
      exact .inr ⟨_, _, rfl, by omega, by omega, fun h => by omega⟩
    · rw [if_neg hc]
      refine .inr ⟨_, _, rfl, by omega, by omega, fun _ => ⟨rfl, hlt, by simp, fun j hj => ?_⟩⟩
      have := hat (j + 3) (by simp only [List.length_cons]; omega)
      rw [show off + 3 + j = off + (j + 3) from by omega, this]
      simp
end words

/-- Numbers as cells. -/
def intC (l : List Int) : List Value := l.map (Value.int .i64)
/-- The cells of a term. -/
def TmCells (t : Tm) (sv kv : Value) : List Value := [.int .i64 t.kind, .int .i64 t.n, .string t.name, .string t.text, sv, kv]
/-- Its ranges, its kids: the kids lie in blocks of F. -/
structure TmOk (w : World) (F : Nat → Prop) (t : Tm) (sv kv : Value) : Prop where
  set : ∃ h, Sl w 75 2 sv h t.set.length (flatR t.set)
  kids : ∃ h, Sl w 3 1 kv h t.kids.length (intC t.kids) ∧ ∀ b, h = some b → F b
/-- The cells of terms. -/
def OutAt (w : World) (F : Nat → Prop) : Out → List Value → Prop
  | [], xs => xs = []
  | t :: ts, xs => ∃ sv kv rest, xs = TmCells t sv kv ++ rest ∧ TmOk w F t sv kv ∧ OutAt w F ts rest

/-- Blocks of ranges, and of numbers of F, are as they were. -/
def SKeep (F : Nat → Prop) (w w' : World) : Prop := ∀ b e cs, Blk w b e cs → e = 75 ∨ (e = 3 ∧ F b) → w'.heap[b]? = w.heap[b]?
theorem Sl.skeep {F : Nat → Prop} {w w' : World} {e : TypeId} {size n : Nat} {v : Value} {h : Option Nat} {xs : List Value} (hs : Sl w e size v h n xs) (hk : SKeep F w w') (he : e = 75 ∨ (e = 3 ∧ ∀ b, h = some b → F b)) : Sl w' e size v h n xs := by
  refine ⟨hs.1, ?_⟩
  rcases hs.2 with hn | ⟨b, off, cap, cur, hh, hv, hb, r⟩
  · exact .inl hn
  · exact .inr ⟨b, off, cap, cur, hh, hv, (hk b e cur hb (he.imp id fun x => ⟨x.1, x.2 b hh⟩)).trans hb, r⟩
theorem TmOk.keep {F : Nat → Prop} {w w' : World} {t : Tm} {sv kv : Value} (h : TmOk w F t sv kv) (hk : SKeep F w w') : TmOk w' F t sv kv := by
  obtain ⟨⟨a, h1⟩, ⟨b, h2, h3⟩⟩ := h
  exact ⟨⟨a, h1.skeep hk (.inl rfl)⟩, ⟨b, h2.skeep hk (.inr ⟨rfl, h3⟩), h3⟩⟩
theorem TmOk.more {F F' : Nat → Prop} {w : World} {t : Tm} {sv kv : Value} (h : TmOk w F t sv kv) (hk : ∀ b, F b → F' b) : TmOk w F' t sv kv := by
  obtain ⟨h1, ⟨b, h2, h3⟩⟩ := h
  exact ⟨h1, ⟨b, h2, fun b hb => hk b (h3 b hb)⟩⟩
theorem OutAt.keep {F : Nat → Prop} {w w' : World} (hk : SKeep F w w') : ∀ (l : Out) (xs : List Value), OutAt w F l xs → OutAt w' F l xs
  | [], _, h => h
  | _ :: ts, _, ⟨sv, kv, rest, h1, h2, h3⟩ => ⟨sv, kv, rest, h1, h2.keep hk, OutAt.keep hk ts rest h3⟩
theorem OutAt.more {F F' : Nat → Prop} {w : World} (hk : ∀ b, F b → F' b) : ∀ (l : Out) (xs : List Value), OutAt w F l xs → OutAt w F' l xs
  | [], _, h => h
  | _ :: ts, _, ⟨sv, kv, rest, h1, h2, h3⟩ => ⟨sv, kv, rest, h1, h2.more hk, OutAt.more hk ts rest h3⟩
theorem OutAt.snoc {F : Nat → Prop} {w : World} {t : Tm} {sv kv : Value} (ht : TmOk w F t sv kv) : ∀ (l : Out) (xs : List Value), OutAt w F l xs → OutAt w F (l ++ [t]) (xs ++ TmCells t sv kv)
  | [], xs, h => by
    have : xs = [] := h
    subst this
    exact ⟨sv, kv, [], by simp, ht, rfl⟩
  | _ :: ts, _, ⟨sv', kv', rest, h1, h2, h3⟩ => ⟨sv', kv', rest ++ TmCells t sv kv, by rw [h1, List.append_assoc], h2, OutAt.snoc ht ts rest h3⟩
theorem TmOk.none (F : Nat → Prop) (w : World) (t : Tm) (h1 : t.set = []) (h2 : t.kids = []) : TmOk w F t (.slice none 0 0) (.slice none 0 0) := by
  refine ⟨⟨Option.none, ?_⟩, ⟨Option.none, ?_, by simp⟩⟩
  · rw [h1]
    exact Sl.nil _ _ _
  · rw [h2]
    exact Sl.nil _ _ _

/-- Where the terms lie: their block, and the blocks of their kids. -/
structure Hn where
  b : Option Nat
  f : Nat → Prop

/-- The reader: its block, that of the terms' slice, that of the flag; the words to come, the terms put. -/
structure RAt (w0 w : World) (g ob mb : Nat) (uv : Value) (E : CEnv) (ws : List WT) (out : Out) (mod : Bool) (h : Hn) : Prop where
  rd : ∃ wv, Blk w g 62 #[wv, .int .i64 E.box, uv, .pointer (some ⟨ob, 0, none⟩), .pointer (some ⟨mb, 0, none⟩)] ∧ WsAt w0 wv ws
  ou : ∃ ov xs, Blk w ob 27 #[ov] ∧ Sl w 57 6 ov h.b out.length xs ∧ OutAt w h.f out xs
  mo : Blk w mb 4 #[.bool mod]
  bel : Below w0.heap.size w0 w
  lo : w0.heap.size ≤ g ∧ w0.heap.size ≤ ob ∧ w0.heap.size ≤ mb ∧ ∀ b, h.b = some b → w0.heap.size ≤ b
  ok : okL ws
  fl : ∀ b, h.f b → b < w.heap.size

/-- What a reader is given: numbers, the library's variable. -/
structure EAt (w0 : World) (uv : Value) (E : CEnv) : Prop where
  uids : RdS w0 [] 1 uv E.uids.length (intC E.uids)
  few : E.uids.length ≤ 200
  nums : ∀ u ∈ E.uids, 1 ≤ u ∧ u ≤ 1099511627776
  mx : Mx w0

/-- From one state of the reader to another. -/
structure KSt (w0 w w' : World) (g ob mb : Nat) (uv : Value) (E : CEnv) (h : Hn) (ws' : List WT) (out' : Out) (mod' : Bool) (h' : Hn) : Prop where
  at_ : RAt w0 w' g ob mb uv E ws' out' mod' h'
  chg : Chg (g :: ob :: mb :: h.b.toList) w w'
  new : h'.b = h.b ∨ ∃ b, h'.b = some b ∧ w.heap.size ≤ b
  fnew : ∀ b, h'.f b → h.f b ∨ w.heap.size ≤ b

section
variable {w0 w w' w'' : World} {g ob mb : Nat} {uv : Value} {E : CEnv} {ws ws' : List WT} {out out' : Out} {mod mod' : Bool} {h h' h'' : Hn}

theorem RAt.ne (s : RAt w0 w g ob mb uv E ws out mod h) : g ≠ ob ∧ g ≠ mb ∧ ob ≠ mb ∧ h.b ≠ some g ∧ h.b ≠ some ob ∧ h.b ≠ some mb := by
  obtain ⟨wv, hg, _⟩ := s.rd
  obtain ⟨ov, xs, ho, hs, _⟩ := s.ou
  refine ⟨hg.ne ho (by decide), hg.ne s.mo (by decide), ho.ne s.mo (by decide), fun e => hs.ne_blk hg (by decide) g e rfl, fun e => hs.ne_blk ho (by decide) ob e rfl, fun e => hs.ne_blk s.mo (by decide) mb e rfl⟩
theorem RAt.refl (s : RAt w0 w g ob mb uv E ws out mod h) : KSt w0 w w g ob mb uv E h ws out mod h := ⟨s, Chg.refl _ _, .inl rfl, fun _ h => .inl h⟩
theorem SKeep.of_chg {F : Nat → Prop} {S : List Nat} (hc : Chg S w w') (hs : ∀ k ∈ S, ∃ e cs, Blk w k e cs ∧ e ≠ 75 ∧ e ≠ 3) : SKeep F w w' := by
  intro b e cs hB he
  refine hc.block b hB.lt fun hm => ?_
  obtain ⟨e', cs', hB', h1, h2⟩ := hs b hm
  have := (hB.inj hB').1
  subst this
  rcases he with he | he
  · exact h1 he
  · exact h2 he.1
theorem Sl.blkOf {o : Option Nat} {e : TypeId} {size n : Nat} {v : Value} {xs : List Value} (hs : Sl w e size v o n xs) : ∀ b, o = some b → ∃ cur, Blk w b e cur := by
  intro b hb
  rcases hs.2 with ⟨hn, _⟩ | ⟨b', off, cap, cur, hh, _, hB, _⟩
  · rw [hb] at hn
    cases hn
  · rw [hb] at hh
    obtain rfl := Option.some.inj hh
    exact ⟨cur, hB⟩
theorem RAt.own (s : RAt w0 w g ob mb uv E ws out mod h) : ∀ k ∈ g :: ob :: mb :: h.b.toList, ∃ e cs, Blk w k e cs ∧ e ≠ 75 ∧ e ≠ 3 := by
  obtain ⟨wv, hg, _⟩ := s.rd
  obtain ⟨ov, xs, ho, hs, _⟩ := s.ou
  intro k hk
  simp only [List.mem_cons, Option.mem_toList] at hk
  rcases hk with rfl | rfl | rfl | hk
  · exact ⟨_, _, hg, by decide, by decide⟩
  · exact ⟨_, _, ho, by decide, by decide⟩
  · exact ⟨_, _, s.mo, by decide, by decide⟩
  · obtain ⟨cur, hB⟩ := hs.blkOf k hk
    exact ⟨_, _, hB, by decide, by decide⟩
/-- What was of the caller's own, of another type, is as it was. -/
theorem RAt.apart (s : RAt w0 w g ob mb uv E ws out mod h) {b : Nat} {e : TypeId} {cs : Array Value} (hB : Blk w b e cs) (h1 : e ≠ 62) (h2 : e ≠ 27) (h3 : e ≠ 4) (h4 : e ≠ 57) : b ∉ g :: ob :: mb :: h.b.toList := by
  obtain ⟨wv, hg, _⟩ := s.rd
  obtain ⟨ov, xs, ho, hs, _⟩ := s.ou
  simp only [List.mem_cons, Option.mem_toList, not_or]
  refine ⟨hB.ne hg h1, hB.ne ho h2, hB.ne s.mo h3, fun e2 => ?_⟩
  exact hs.ne_blk hB (fun e3 => h4 e3.symm) b e2 rfl
theorem KSt.other (s : RAt w0 w g ob mb uv E ws out mod h) (k : KSt w0 w w' g ob mb uv E h ws' out' mod' h') {b : Nat} {e : TypeId} {cs : Array Value} (hB : Blk w b e cs) (h1 : e ≠ 62) (h2 : e ≠ 27) (h3 : e ≠ 4) (h4 : e ≠ 57) : Blk w' b e cs :=
  hB.chg k.chg (s.apart hB h1 h2 h3 h4)
theorem KSt.ints (s : RAt w0 w g ob mb uv E ws out mod h) (k : KSt w0 w w' g ob mb uv E h ws' out' mod' h') {o : Option Nat} {n : Nat} {v : Value} {xs : List Value} (hs : Sl w 3 1 v o n xs) : Sl w' 3 1 v o n xs :=
  hs.chg k.chg fun b hb => by
    obtain ⟨cur, hB⟩ := hs.blkOf b hb
    exact s.apart hB (by decide) (by decide) (by decide) (by decide)
theorem KSt.trans (k : KSt w0 w w' g ob mb uv E h ws out mod h') (k' : KSt w0 w' w'' g ob mb uv E h' ws' out' mod' h'') : KSt w0 w w'' g ob mb uv E h ws' out' mod' h'' := by
  refine ⟨k'.at_, k.chg.trans k'.chg fun i hi => ?_, ?_, fun b hb => ?_⟩
  · simp only [List.mem_cons, Option.mem_toList] at hi ⊢
    rcases hi with hi | hi | hi | hi
    · exact .inl (.inl hi)
    · exact .inl (.inr (.inl hi))
    · exact .inl (.inr (.inr (.inl hi)))
    · rcases k.new with h1 | ⟨b, h1, h2⟩
      · exact .inl (.inr (.inr (.inr (by rw [← h1]; exact hi))))
      · rw [h1] at hi
        injection hi with hi
        exact .inr (by omega)
  · rcases k'.new with h1 | ⟨b, h1, h2⟩
    · rw [h1]
      exact k.new
    · exact .inr ⟨b, h1, Nat.le_trans k.chg.size h2⟩
  · rcases k'.fnew b hb with h1 | h1
    · exact k.fnew b h1
    · exact .inr (Nat.le_trans k.chg.size h1)
/-- What was there is as it was. -/
theorem RAt.below (s : RAt w0 w g ob mb uv E ws out mod h) (hb : Below w.heap.size w w') : RAt w0 w' g ob mb uv E ws out mod h := by
  obtain ⟨wv, hg, hw⟩ := s.rd
  obtain ⟨ov, xs, ho, hs, hx⟩ := s.ou
  exact ⟨⟨wv, hg.below hb hg.lt, hw⟩, ⟨ov, xs, ho.below hb ho.lt, hs.chg (Chg.of_below hb []) (by simp), OutAt.keep (fun b e cs hB _ => hb.block b hB.lt) _ _ hx⟩, s.mo.below hb s.mo.lt, s.bel.trans (hb.mono s.bel.size), s.lo, s.ok, fun b hf => Nat.lt_of_lt_of_le (s.fl b hf) hb.size⟩
theorem RAt.still (s : RAt w0 w g ob mb uv E ws out mod h) (hb : Below w.heap.size w w') : KSt w0 w w' g ob mb uv E h ws out mod h := ⟨s.below hb, Chg.of_below hb _, .inl rfl, fun _ h => .inl h⟩
theorem KSt.below (k : KSt w0 w w' g ob mb uv E h ws out mod h') (hb : Below w'.heap.size w' w'') : KSt w0 w w'' g ob mb uv E h ws out mod h' := k.trans (k.at_.still hb)
/-- ahead of it. -/
theorem KSt.after (k : KSt w0 w' w'' g ob mb uv E h ws out mod h') (hb : Below w.heap.size w w') : KSt w0 w w'' g ob mb uv E h ws out mod h' :=
  ⟨k.at_, (Chg.of_below hb (g :: ob :: mb :: h.b.toList)).trans k.chg fun i hi => .inl hi, by
    rcases k.new with h1 | ⟨b, h1, h2⟩
    · exact .inl h1
    · exact .inr ⟨b, h1, Nat.le_trans hb.size h2⟩, fun b hf => (k.fnew b hf).imp id fun h => Nat.le_trans hb.size h⟩
/-- A term has been put behind the others: its kids lie in blocks of F. -/
structure PutSt (w0 w w' : World) (g ob mb : Nat) (uv : Value) (E : CEnv) (h : Hn) (ws' : List WT) (out' : Out) (mod' : Bool) (hb : Option Nat) (F : Nat → Prop) : Prop where
  at_ : RAt w0 w' g ob mb uv E ws' out' mod' ⟨hb, F⟩
  chg : Chg (g :: ob :: mb :: h.b.toList) w w'
  new : hb = h.b ∨ ∃ b, hb = some b ∧ w.heap.size ≤ b
theorem PutSt.after {F : Nat → Prop} {hb : Option Nat} (k : PutSt w0 w' w'' g ob mb uv E h ws out mod hb F) (hbl : Below w.heap.size w w') : PutSt w0 w w'' g ob mb uv E h ws out mod hb F :=
  ⟨k.at_, (Chg.of_below hbl (g :: ob :: mb :: h.b.toList)).trans k.chg fun i hi => .inl hi, by
    rcases k.new with h1 | ⟨b, h1, h2⟩
    · exact .inl h1
    · exact .inr ⟨b, h1, Nat.le_trans hbl.size h2⟩⟩
theorem KSt.putting {F : Nat → Prop} {hb : Option Nat} (k : KSt w0 w w' g ob mb uv E h ws out mod h') (p : PutSt w0 w' w'' g ob mb uv E h' ws' out' mod' hb F) (hF : ∀ b, F b → h'.f b ∨ w.heap.size ≤ b) : KSt w0 w w'' g ob mb uv E h ws' out' mod' ⟨hb, F⟩ := by
  refine ⟨p.at_, k.chg.trans p.chg fun i hi => ?_, ?_, fun b hb => ?_⟩
  · simp only [List.mem_cons, Option.mem_toList] at hi ⊢
    rcases hi with hi | hi | hi | hi
    · exact .inl (.inl hi)
    · exact .inl (.inr (.inl hi))
    · exact .inl (.inr (.inr (.inl hi)))
    · rcases k.new with h1 | ⟨b, h1, h2⟩
      · exact .inl (.inr (.inr (.inr (by rw [← h1]; exact hi))))
      · rw [h1] at hi
        injection hi with hi
        exact .inr (by omega)
  · rcases p.new with h1 | ⟨b, h1, h2⟩
    · show hb = h.b ∨ ∃ b, hb = some b ∧ w.heap.size ≤ b
      rw [h1]
      exact k.new
    · exact .inr ⟨b, h1, Nat.le_trans k.chg.size h2⟩
  · rcases hF b hb with h1 | h1
    · exact k.fnew b h1
    · exact .inr h1
/-- A term behind the others. -/
theorem RAt.push (s : RAt w0 w g ob mb uv E ws out mod h) {F : Nat → Prop} (hF : ∀ b, h.f b → F b) (hFl : ∀ b, F b → b < w.heap.size) {t : Tm} {sv kv : Value} (ht : TmOk w F t sv kv) {xs : List Value} (hx : OutAt w h.f out xs) (c : Obj)
    {v' : Value} {hb' : Option Nat} (hs : Sl w' 57 6 v' hb' (out.length + 1) (xs ++ TmCells t sv kv)) (hc : Chg h.b.toList (w.alloc c) w') (ho : hb' = h.b ∨ ∃ b, hb' = some b ∧ (w.alloc c).heap.size ≤ b) :
    PutSt w0 w (w'.setCell ⟨ob, 0, none⟩ v') g ob mb uv E h ws (out ++ [t]) mod hb' F := by
  obtain ⟨n1, n2, n3, n4, n5, n6⟩ := s.ne
  obtain ⟨wv, hg, hw⟩ := s.rd
  obtain ⟨ov0, xs0, hob, hs0, _⟩ := s.ou
  have hnew : ∀ k, hb' = some k → h.b = some k ∨ w.heap.size < k := by
    intro k hk
    rcases ho with h2 | ⟨k2, h2, h3⟩
    · exact .inl (by rw [← h2]; exact hk)
    · rw [h2] at hk
      injection hk with hk
      simp at h3
      exact .inr (by omega)
  have hgl := hg.lt
  have hol := hob.lt
  have hml := s.mo.lt
  have hfar : ∀ b, b < w.heap.size → h.b ≠ some b → hb' ≠ some b := fun b hb hn e => by
    rcases hnew b e with h1 | h1
    · exact hn h1
    · omega
  have hch : Chg (g :: ob :: mb :: h.b.toList) w (w'.setCell ⟨ob, 0, none⟩ v') :=
    (((Chg.refl (g :: ob :: mb :: h.b.toList) w).alloc c).trans hc fun i hi => .inl (by simp only [List.mem_cons]; exact .inr (.inr (.inr hi)))).set (p := ⟨ob, 0, none⟩) (.inl (by simp)) v'
  have hsk : SKeep F w (w'.setCell ⟨ob, 0, none⟩ v') := SKeep.of_chg hch s.own
  have e1 := (Chg.refl h.b.toList w).alloc c
  have hcc : Chg h.b.toList w w' := e1.trans hc fun i hi => .inl hi
  refine ⟨⟨⟨wv, ?_, hw⟩, ⟨v', _, ?_, ?_, OutAt.snoc (ht.keep hsk) _ _ (OutAt.keep hsk _ _ (OutAt.more hF _ _ hx))⟩, ?_, ?_, ?_, s.ok, fun b hb => Nat.lt_of_lt_of_le (hFl b hb) hch.size⟩, hch, ?_⟩
  · exact (hg.chg hcc (by simpa using n4)).far n1 v'
  · have := (hob.chg hcc (by simpa using n5)).set 0 v'
    exact this
  · rw [List.length_append]
    exact hs.far (p := ⟨ob, 0, none⟩) (hfar ob hol n5) v'
  · exact (s.mo.chg hcc (by simpa using n6)).far (fun e => n3 e.symm) v'
  · refine s.bel.trans (hch.below s.bel.size fun k hk => ?_)
    simp only [List.mem_cons, Option.mem_toList] at hk
    obtain ⟨l1, l2, l3, l4⟩ := s.lo
    rcases hk with rfl | rfl | rfl | hk
    · exact l1
    · exact l2
    · exact l3
    · exact l4 k hk
  · obtain ⟨l1, l2, l3, l4⟩ := s.lo
    refine ⟨l1, l2, l3, fun b hb => ?_⟩
    rcases hnew b hb with h1 | h1
    · exact l4 b h1
    · have := s.bel.size
      omega
  · rcases ho with h2 | ⟨k2, h2, h3⟩
    · exact .inl h2
    · simp at h3
      exact .inr ⟨k2, h2, by omega⟩
/-- A word taken. -/
theorem RAt.take (s : RAt w0 w g ob mb uv E ws out mod h) {wv' : Value} (hw : WsAt w0 wv' ws') (hok : okL ws') : KSt w0 w (w.setCell ⟨g, 0, none⟩ wv') g ob mb uv E h ws' out mod h := by
  obtain ⟨n1, n2, n3, n4, n5, n6⟩ := s.ne
  obtain ⟨wv, hg, _⟩ := s.rd
  obtain ⟨ov0, xs0, hob, hs0, hx⟩ := s.ou
  have hch : Chg (g :: ob :: mb :: h.b.toList) w (w.setCell ⟨g, 0, none⟩ wv') := (Chg.refl _ w).set (p := ⟨g, 0, none⟩) (.inl (by simp)) wv'
  refine ⟨⟨⟨wv', by have := hg.set 0 wv'; exact this, hw⟩, ⟨ov0, xs0, hob.far (fun e => n1 e.symm) _, hs0.far (p := ⟨g, 0, none⟩) n4 _, OutAt.keep (SKeep.of_chg hch s.own) _ _ hx⟩, s.mo.far (fun e => n2 e.symm) _, ?_, s.lo, hok, fun b hb => Nat.lt_of_lt_of_le (s.fl b hb) hch.size⟩, hch, .inl rfl, fun _ h => .inl h⟩
  refine s.bel.trans (hch.below s.bel.size fun k hk => ?_)
  simp only [List.mem_cons, Option.mem_toList] at hk
  obtain ⟨l1, l2, l3, l4⟩ := s.lo
  rcases hk with rfl | rfl | rfl | hk
  · exact l1
  · exact l2
  · exact l3
  · exact l4 k hk
/-- The flag up. -/
theorem RAt.flag (s : RAt w0 w g ob mb uv E ws out mod h) : KSt w0 w (w.setCell ⟨mb, 0, none⟩ (.bool true)) g ob mb uv E h ws out true h := by
  obtain ⟨n1, n2, n3, n4, n5, n6⟩ := s.ne
  obtain ⟨wv, hg, hw⟩ := s.rd
  obtain ⟨ov0, xs0, hob, hs0, hx⟩ := s.ou
  have hch : Chg (g :: ob :: mb :: h.b.toList) w (w.setCell ⟨mb, 0, none⟩ (.bool true)) := (Chg.refl _ w).set (p := ⟨mb, 0, none⟩) (.inl (by simp)) _
  refine ⟨⟨⟨wv, hg.far n2 _, hw⟩, ⟨ov0, xs0, hob.far n3 _, hs0.far (p := ⟨mb, 0, none⟩) n6 _, OutAt.keep (SKeep.of_chg hch s.own) _ _ hx⟩, by have := s.mo.set 0 (.bool true); exact this, ?_, s.lo, s.ok, fun b hb => Nat.lt_of_lt_of_le (s.fl b hb) hch.size⟩, hch, .inl rfl, fun _ h => .inl h⟩
  refine s.bel.trans (hch.below s.bel.size fun k hk => ?_)
  simp only [List.mem_cons, Option.mem_toList] at hk
  obtain ⟨l1, l2, l3, l4⟩ := s.lo
  rcases hk with rfl | rfl | rfl | hk
  · exact l1
  · exact l2
  · exact l3
  · exact l4 k hk
end

/-- What a key hands back: its place and whether it is one; the state behind it is the plain one where it is. -/
def KOut (w0 w : World) (g ob mb : Nat) (uv : Value) (E : CEnv) (h : Hn) (bound sz : Nat) (res : Res) (e : Ending) (w' : World) : Prop :=
  ∃ k ok ws' out' mod' h', e = .returned (.tuple #[.int .i64 k, .bool ok]) ∧ KSt w0 w w' g ob mb uv E h ws' out' mod' h' ∧ res = (if ok = true then some (k, ws', out', mod') else none) ∧ out'.length + 3 * szL ws' ≤ bound ∧ szL ws' + (if ok = true then 1 else 0) ≤ sz

end Go.Proofs.YtnfabgbidkddhaaGreatDoor

namespace Go.Proofs.YtnfabgbidkddhaaGreatDoor
open Go.RowKit
attribute [local go_sem ↓] Go.wp_at_zero Go.wp_at_succ

theorem Tryz.infoTerm : (Tryz.prog.info? 57).map (fun i => (i.zero, i.size, i.bytes)) = some (some (.agg #[.int .i64 0, .int .i64 0, .string ⟨#[]⟩, .string ⟨#[]⟩, .slice none 0 0, .slice none 0 0]), 6, 96) := by kernel_rfl

section
variable {w0 w w' : World} {g ob mb : Nat} {uv : Value} {E : CEnv} {ws : List WT} {out : Out} {mod : Bool} {h : Hn}

set_option maxRecDepth 100000 in
set_option maxHeartbeats 2000000 in
theorem putF_anyC (s : RAt w0 w g ob mb uv E ws out mod h) (t : Tm) (sv kv : Value) {F : Nat → Prop} (hF : ∀ b, h.f b → F b) (hFl : ∀ b, F b → b < w.heap.size) (ht : TmOk w F t sv kv) (hn : out.length ≤ 1099511627776) :
    Calls Tryz.prog 45 #[.pointer (some ⟨g, 0, none⟩), .agg #[.int .i64 t.kind, .int .i64 t.n, .string t.name, .string t.text, sv, kv]] w
      fun e w' => ∃ h', e = .returned (.int .i64 (out.length : Nat)) ∧ PutSt w0 w w' g ob mb uv E h ws (out ++ [t]) mod h' F := by
  obtain ⟨i0, hi, hz0, hz1, hz2⟩ := info_parts Tryz.infoTerm
  obtain ⟨A1, n1, c1, rfl⟩ : ∃ A n c, sv = .slice A n c := by
    obtain ⟨_, hs⟩ := ht.set
    obtain ⟨A, c, h1, _⟩ := hs.form
    exact ⟨A, _, c, h1⟩
  obtain ⟨A2, n2, c2, rfl⟩ : ∃ A n c, kv = .slice A n c := by
    obtain ⟨_, hs, _⟩ := ht.kids
    obtain ⟨A, c, h1, _⟩ := hs.form
    exact ⟨A, _, c, h1⟩
  obtain ⟨tk, tn, tm, tx, ts, tl⟩ := t
  have hW : ∃ W1 X, w.alloc (.cells #[.int .i64 tk, .int .i64 tn, .string tm, .string tx, .slice A1 n1 c1, .slice A2 n2 c2] 57) = W1 ∧ w.heap.size = X ∧ Blk W1 X 57 #[.int .i64 tk, .int .i64 tn, .string tm, .string tx, .slice A1 n1 c1, .slice A2 n2 c2] ∧ Below w.heap.size w W1 :=
    ⟨_, _, rfl, rfl, Blk.new _ _ _, (Below.refl _ _).alloc (Nat.le_refl _) _⟩
  obtain ⟨W1, X, hW1, hX, qX, hbW⟩ := hW
  have s1 := s.below hbW
  have HFL := Lib.hid (fun b hb => Nat.lt_of_lt_of_le (hFl b hb) hbW.size)
  have HF := Lib.hid hF
  clear hF hFl
  have ht1 := ht.keep (fun b e cs hB _ => hbW.block b hB.lt)
  have HBW := Lib.hid hbW
  have HT1 := Lib.hid ht1
  have HS1 := Lib.hid s1
  obtain ⟨wv, hg, hww⟩ := s1.rd
  obtain ⟨ov, xs, hob, hs, hx⟩ := s1.ou
  have hgX : g < W1.heap.size := hg.lt
  have hobX : ob < W1.heap.size := hob.lt
  have HX := Lib.hid hx
  have HHS := Lib.hid hs
  have hobh : h.b ≠ some ob := s1.ne.2.2.2.2.1
  have HGH := Lib.hid (show g ∉ h.b.toList by have := s1.ne.2.2.2.1; simpa using this)
  have HOB := Lib.hid hobh
  have HN := Lib.hid hn
  obtain ⟨A, cap, rfl, _, _⟩ := hs.form
  have e1 : W1.cell? ⟨g, 3, none⟩ = some (.pointer (some ⟨ob, 0, none⟩)) := hg.cell 3
  have e2 : W1.cell? ⟨ob, 0, none⟩ = some (.slice A out.length cap) := hob.cell 0
  have e3 : W1.frozen? ⟨ob, 0, none⟩ = false := hob.frozen 0
  have x0 : W1.cell? ⟨X, 0, none⟩ = some (.int .i64 tk) := qX.cell 0
  have x1 : W1.cell? ⟨X, 1, none⟩ = some (.int .i64 tn) := qX.cell 1
  have x2 : W1.cell? ⟨X, 2, none⟩ = some (.string tm) := qX.cell 2
  have x3 : W1.cell? ⟨X, 3, none⟩ = some (.string tx) := qX.cell 3
  have x4 : W1.cell? ⟨X, 4, none⟩ = some (.slice A1 n1 c1) := qX.cell 4
  have x5 : W1.cell? ⟨X, 5, none⟩ = some (.slice A2 n2 c2) := qX.cell 5
  have hXl := qX.lt
  clear s s1 ht ht1 hbW hg hww hob hs hx hobh hn qX
  generalize hNe : out.length = N at e2 HN HHS ⊢
  have HNE := Lib.hid hNe
  clear hNe
  go_enter Tryz.func45, Tryz.ntmps45
  go_upto_region 1 with (fail)
  have hn := HN.out
  have hoh : ob ∉ h.b.toList := by
    have := HOB.out
    simpa using this
  have HOH := Lib.hid hoh
  clear hoh
  go_region_law (refine step_append_sl _ (by rfl) (.tmp 14) (.tmp 16) _ (by rfl) Tryz.underlying27 hi hz0 hz1 hz2 rfl (by omega) ((HHS.out.alloc _).heap (by rfl)) (by simp [Act.eval]) W1.heap.size #[.int .i64 tk, .int .i64 tn, .string tm, .string tx, .slice A1 n1 c1, .slice A2 n2 c2] (e' := 57) (fr := (0, 0)) (heap_alloc_new W1 _) 1 1 (by simp [Act.eval]) (by rfl) (by simp [Value.oneCell']) (by unfold maxLen; omega) (by omega) ?_; intro v2 h2 w2 hs2 hc2 ho2; obtain ⟨A3, cap3, rfl, _, _⟩ := hs2.form; have hf2 : w2.frozen? ⟨ob, 0, none⟩ = false := (hc2.frozen (p := ⟨ob, 0, none⟩) (by simp; omega) HOH.out).trans ((World.frozen?_alloc_past _ _ _ hobX).trans e3); have hf3 : w2.cell? ⟨ob, 0, none⟩ = some (.slice A N cap) := (hc2.cell (p := ⟨ob, 0, none⟩) (by simp; omega) HOH.out).trans ((World.cell?_alloc_past _ _ _ hobX).trans e2); have hf4 : w2.cell? ⟨g, 3, none⟩ = some (.pointer (some ⟨ob, 0, none⟩)) := (hc2.cell (p := ⟨g, 3, none⟩) (by simp; omega) HGH.out).trans ((World.cell?_alloc_past _ _ _ hgX).trans e1))
  all_goals
    have hks := (HS1.out.push (w' := w2) (hb' := h2) HF.out HFL.out HT1.out HX.out (.cells #[.int .i64 tk, .int .i64 tn, .string tm, .string tx, .slice A1 n1 c1, .slice A2 n2 c2] 57) (v' := .slice A3 (N + 1) cap3) (by rw [HNE.out]; exact hs2) ⟨hc2.os, hc2.tape, hc2.output, hc2.size, hc2.block⟩ ho2).after HBW.out
    have hB : Blk w2 ob 27 #[.slice A N cap] := by
      obtain ⟨ov, xs0, hob, _⟩ := HS1.out.ou
      have h0 : ov = .slice A N cap := by
        have := (hob.cell 0).symm.trans e2
        simpa using this
      rw [h0] at hob
      exact (hob.alloc _).chg ⟨hc2.os, hc2.tape, hc2.output, hc2.size, hc2.block⟩ HOH.out
    have f2 : (w2.setCell ⟨ob, 0, none⟩ (.slice A3 (N + 1) cap3)).cell? ⟨ob, 0, none⟩ = some (.slice A3 (N + 1) cap3) := by
      rw [(hB.set 0 _).cell 0]
      rfl
    have f1 : (w2.setCell ⟨ob, 0, none⟩ (.slice A3 (N + 1) cap3)).cell? ⟨g, 3, none⟩ = some (.pointer (some ⟨ob, 0, none⟩)) := by
      obtain ⟨wv, hg, _⟩ := hks.at_.rd
      exact hg.cell 3
    have HKS := Lib.hid hks
    clear hks hB hs2 hc2 ho2 hf2 hf3 hf4
    generalize w2.setCell ⟨ob, 0, none⟩ (.slice A3 (N + 1) cap3) = w3 at HKS f1 f2 ⊢
    go_wp2
    go_ret
    exact ⟨h2, rfl, HKS.out⟩

theorem put_anyC (s : RAt w0 w g ob mb uv E ws out mod h) (t : Tm) (sv kv : Value) (ht : TmOk w h.f t sv kv) (hn : out.length ≤ 1099511627776) :
    Calls Tryz.prog 45 #[.pointer (some ⟨g, 0, none⟩), .agg #[.int .i64 t.kind, .int .i64 t.n, .string t.name, .string t.text, sv, kv]] w
      fun e w' => ∃ h', e = .returned (.int .i64 (out.length : Nat)) ∧ KSt w0 w w' g ob mb uv E h ws (out ++ [t]) mod h' := by
  refine (putF_anyC s t sv kv (fun _ h => h) s.fl ht hn).mono ?_
  rintro e w' ⟨h', rfl, hp⟩
  exact ⟨_, rfl, s.refl.putting hp fun b hb => .inl hb⟩
end

end Go.Proofs.YtnfabgbidkddhaaGreatDoor

namespace Go.Proofs.YtnfabgbidkddhaaGreatDoor
open Go.RowKit
attribute [local go_sem ↓] Go.wp_at_zero Go.wp_at_succ

section
variable {w0 w w' : World} {g ob mb : Nat} {uv : Value} {E : CEnv} {ws : List WT} {out : Out} {mod : Bool} {h : Hn}

set_option maxRecDepth 100000 in
set_option maxHeartbeats 1000000 in
theorem over_anyC {wS : World} {h0 : Hn} (k0 : KSt w0 wS w g ob mb uv E h0 ws out mod h) (kind : Int) (kids : List Int) (kv : Value) (hk : Option Nat) (hks : Sl w 3 1 kv hk kids.length (intC kids)) (hown : ∀ b, hk = some b → wS.heap.size ≤ b) (hn : out.length ≤ 1099511627776) :
    Calls Tryz.prog 27 #[.pointer (some ⟨g, 0, none⟩), .int .i64 kind, kv] w
      fun e w' => ∃ h', e = .returned (.int .i64 (out.length : Nat)) ∧ KSt w0 wS w' g ob mb uv E h0 ws (out ++ [tmK kind kids]) mod h' := by
  have hp := putF_anyC k0.at_ (tmK kind kids) (.slice none 0 0) kv (F := fun b => h.f b ∨ hk = some b) (fun _ h => .inl h) (fun b hb => hb.elim (k0.at_.fl b) fun e => hks.lt b e) ⟨⟨none, Sl.nil _ _ _⟩, ⟨hk, hks, fun b hb => .inr hb⟩⟩ hn
  have hp : Calls Tryz.prog 45 #[.pointer (some ⟨g, 0, none⟩), .agg #[.int .i64 kind, .int .i64 0, .string ⟨#[]⟩, .string ⟨#[]⟩, .slice none 0 0, kv]] w _ := hp
  have HK0 := Lib.hid k0
  have HOWN := Lib.hid hown
  obtain ⟨A, n, c, rfl⟩ : ∃ A n c, kv = .slice A n c := by
    obtain ⟨A, c, h1, _⟩ := hks.form
    exact ⟨A, _, c, h1⟩
  clear k0 hks hn hown
  go_enter Tryz.func27, Tryz.ntmps27
  go_wp2_with (first
    | (go_at_call 45; refine hp.mono ?_; rintro e w2 ⟨h', rfl, hks⟩; have HKS := Lib.hid (HK0.out.putting hks fun b hb => hb.elim .inl fun e => .inr (HOWN.out b e)); clear hks hp)
    | fail)
  go_ret
  exact ⟨_, rfl, HKS.out⟩

/-- What the next word is. -/
def WordOut (w0 w : World) (g ob mb : Nat) (uv : Value) (E : CEnv) (ws : List WT) (out : Out) (mod : Bool) (h : Hn) (e : Ending) (w' : World) : Prop :=
  ∃ s ok ws', e = .returned (.tuple #[.string s, .bool ok]) ∧ KSt w0 w w' g ob mb uv E h ws' out mod h ∧ wordP ws = (if ok = true then some (s, ws') else none) ∧ s.size ≤ 1100 ∧ szL ws' + (if ok = true then 1 else 0) ≤ szL ws

set_option maxRecDepth 100000 in
set_option maxHeartbeats 2000000 in
theorem word_anyC (s : RAt w0 w g ob mb uv E ws out mod h) :
    Calls Tryz.prog 105 #[.pointer (some ⟨g, 0, none⟩)] w (WordOut w0 w g ob mb uv E ws out mod h) := by
  obtain ⟨wv, hg, hw⟩ := s.rd
  have HS := Lib.hid s
  cases ws with
  | nil =>
    obtain ⟨A, cap, rfl, _, _⟩ := hw.form
    have e0 : w.cell? ⟨g, 0, none⟩ = some (.slice A 0 cap) := hg.cell 0
    clear s hg hw
    go_enter Tryz.func105, Tryz.ntmps105
    go_wp2
    go_ret2
    exact ⟨_, _, _, rfl, HS.out.refl, rfl, by decide, by simp⟩
  | cons t ts =>
    obtain ⟨k, tx, kids⟩ := t
    obtain ⟨b, off, cap, u, rfl, hc1, hc2, hbl, d0, d1, d2, hu, hrest⟩ := hw.head
    have e0 : w.cell? ⟨g, 0, none⟩ = some (.slice (some ⟨b, off, none⟩) (ts.length + 1) cap) := hg.cell 0
    have ef : w.frozen? ⟨g, 0, none⟩ = false := hg.frozen 0
    have d0' : w.cell? ⟨b, off, none⟩ = some (.int .i64 k) := (s.bel.cell (p := ⟨b, off, none⟩) hbl).trans d0
    have d1' : w.cell? ⟨b, off + 1, none⟩ = some (.string tx) := (s.bel.cell (p := ⟨b, off + 1, none⟩) hbl).trans d1
    have hok := s.ok
    unfold okL okW at hok
    obtain ⟨⟨hok1, hok2⟩, hok3⟩ := hok
    have HREST := Lib.hid hrest
    have HOK := Lib.hid hok3
    have HSZ := Lib.hid hok1
    have hlen : (ts.length : Int) + 1 = ((ts.length + 1 : Nat) : Int) := rfl
    by_cases hk3 : k = 3
    · subst hk3
      clear s hg hw d0 d1 d2 hu hrest hok1 hok2 hok3 hlen
      go_enter Tryz.func105, Tryz.ntmps105
      go_wp2
      go_ret2
      refine ⟨_, _, _, rfl, HS.out.refl, ?_, by decide, ?_⟩
      · simp [wordP]
      · simp
    · clear s hg hw d0 d1 d2 hu hrest hok1 hok2 hok3 hlen
      generalize hL : ts.length = L at e0 HREST hc1
      have HL := Lib.hid hL
      clear hL
      have hres : ∀ v, WsAt w0 v ts → WordOut w0 w g ob mb uv E (.mk k tx kids :: ts) out mod h (.returned (.tuple #[.string tx, .bool true])) (w.setCell ⟨g, 0, none⟩ v) := fun v hv =>
        ⟨tx, true, ts, rfl, HS.out.take hv HOK.out, by simp [wordP, hk3], HSZ.out, by simp [szL, szW]; omega⟩
      have HRES := Lib.hid hres
      clear hres
      by_cases hcap : cap - 1 = 0
      · rw [if_pos hcap] at HREST
        obtain rfl : cap = 1 := by omega
        obtain rfl : L = 0 := by omega
        go_enter Tryz.func105, Tryz.ntmps105
        go_wp2
        go_ret2
        exact HRES.out _ HREST.out
      · rw [if_neg hcap] at HREST
        have f1 : (((L : Nat) : Int) + 1 == 0) = false := by simp; omega
        have f2 : (k == 3) = false := by simpa using hk3
        go_enter Tryz.func105, Tryz.ntmps105
        go_wp2
        go_ret2
        exact HRES.out _ HREST.out
end

end Go.Proofs.YtnfabgbidkddhaaGreatDoor
