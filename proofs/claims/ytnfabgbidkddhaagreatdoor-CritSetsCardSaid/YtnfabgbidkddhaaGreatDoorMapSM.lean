/-
  Maps by texts, as the call's own memory holds them: what is looked up, what is stored. Over any program.
-/
import Derived.Test.YtnfabgbidkddhaaGreatDoorGCB
import Derived.MapKept
namespace Go.Proofs.YtnfabgbidkddhaaGreatDoor
open Go.RowKit

instance : LawfulBEq ByteArray where
  eq_of_beq h := (MapKept.bytes_beq _ _).1 h
  rfl := (MapKept.bytes_beq _ _).2 rfl

/-- Block b is a map by texts that holds just these, in this order. -/
def MapS (w : World) (b : Nat) (m : List (ByteArray × Value)) : Prop :=
  ∃ es clock, w.heap[b]? = some (.map es clock) ∧ es.toList.map (fun e => (e.key, e.val)) = (m.map fun p => (Value.string p.1, p.2)) ∧ ∀ e ∈ es.toList, e.born < clock

/-- What a key has. -/
def getS {α : Type} (m : List (ByteArray × α)) (x : ByteArray) : Option α := (m.find? (fun p => p.1 == x)).map (·.2)
/-- A key set. -/
def putS {α : Type} : List (ByteArray × α) → ByteArray → α → List (ByteArray × α)
  | [], x, v => [(x, v)]
  | p :: r, x, v => if p.1 == x then (x, v) :: r else p :: putS r x v

theorem getS_nil {α : Type} (x : ByteArray) : getS ([] : List (ByteArray × α)) x = none := rfl
theorem getS_put_same {α : Type} : ∀ (m : List (ByteArray × α)) (x : ByteArray) (v : α), getS (putS m x v) x = some v
  | [], x, v => by simp [putS, getS]
  | p :: r, x, v => by
    unfold putS
    by_cases h : p.1 == x
    · simp [h, getS]
    · have ih := getS_put_same r x v
      simp only [getS] at ih ⊢
      simp only [h, Bool.false_eq_true, if_false, List.find?_cons]
      exact ih
theorem getS_put_other {α : Type} : ∀ (m : List (ByteArray × α)) (x y : ByteArray) (v : α), x ≠ y → getS (putS m x v) y = getS m y
  | [], x, y, v, h => by simp [putS, getS, h]
  | p :: r, x, y, v, h => by
    have ih := getS_put_other r x y v h
    unfold putS
    by_cases h1 : p.1 == x
    · have h2 : (p.1 == y) = false := by
        rw [beq_iff_eq] at h1
        rw [beq_eq_false_iff_ne, h1]
        exact h
      have h3 : (x == y) = false := by rw [beq_eq_false_iff_ne]; exact h
      simp [h1, getS, h2, h3]
    · simp only [h1, Bool.false_eq_true, if_false]
      simp only [getS, List.find?_cons] at ih ⊢
      cases h2 : p.1 == y
      · exact ih
      · rfl

section
variable {P : Program} {w w' : World} {b : Nat} {m : List (ByteArray × Value)}

theorem MapS.lt (h : MapS w b m) : b < w.heap.size := by
  obtain ⟨es, c, hb, _⟩ := h
  exact (Array.getElem?_eq_some_iff.1 hb).1
theorem MapS.keep (h : MapS w b m) (hk : w'.heap[b]? = w.heap[b]?) : MapS w' b m := by
  obtain ⟨es, c, hb, he, hst⟩ := h
  exact ⟨es, c, hk.trans hb, he, hst⟩
theorem MapS.chg {S : List Nat} (h : MapS w b m) (hc : Chg S w w') (hn : b ∉ S) : MapS w' b m := h.keep (hc.block b h.lt hn)
theorem MapS.alloc (h : MapS w b m) (o : Obj) : MapS (w.alloc o) b m := h.keep (Below.heap_alloc w o b h.lt)
theorem MapS.new (w : World) : MapS (w.alloc (.map #[] 0)) w.heap.size [] := ⟨#[], 0, by show (w.heap.push _)[w.heap.size]? = _; simp, rfl, by simp⟩
theorem MapS.ne_blk {g : Nat} {t : TypeId} {cs : Array Value} (h : MapS w b m) (hb : Blk w g t cs) : b ≠ g := by
  rintro rfl
  obtain ⟨es, c, h1, _⟩ := h
  unfold Blk at hb
  rw [h1] at hb
  cases hb

theorem findNow_str (x : ByteArray) : ∀ (es : List MapEntry) (m : List (ByteArray × Value)) (i : Nat), es.map (fun e => (e.key, e.val)) = m.map (fun p => (Value.string p.1, p.2)) →
    ∃ j, Instr.findNow .string (.string x) es i = some ((getS m x).map fun v => (j, v)) ∧
      (∀ v, getS m x = some v → i ≤ j ∧ (∃ e, es[j - i]? = some e ∧ e.key = .string x)) ∧
      ∀ (v : Value) (k : Value → MapEntry → MapEntry), getS m x ≠ none → (∀ e, (k v e).val = v) → (∀ e, e.key = .string x → (k v e).key = .string x) → (es.modify (j - i) (k v)).map (fun e => (e.key, e.val)) = (putS m x v).map (fun p => (Value.string p.1, p.2))
  | [], [], i, _ => ⟨0, rfl, (fun v h => by simp [getS] at h), (fun v k h _ _ => absurd rfl h)⟩
  | [], p :: r, i, h => by simp at h
  | e :: es, [], i, h => by simp at h
  | e :: es, p :: r, i, h => by
    simp only [List.map_cons, List.cons.injEq, Prod.mk.injEq] at h
    obtain ⟨⟨hk, hv⟩, ht⟩ := h
    by_cases hx : p.1 = x
    · have hpx : (p.1 == x) = true := by simpa using hx
      have hg : getS (p :: r) x = some p.2 := by simp [getS, hpx]
      refine ⟨i, ?_, ?_, ?_⟩
      · simp only [Instr.findNow, Instr.sameNow, hk]
        have : (x == p.1) = true := by simp [hx]
        rw [this, hg, hv]
        rfl
      · intro v hv2
        exact ⟨Nat.le_refl _, e, by simp, by rw [hk, hx]⟩
      · intro v k _ h1 h2
        have hpp : putS (p :: r) x v = (x, v) :: r := by simp [putS, hpx]
        rw [hpp, Nat.sub_self]
        simp only [List.modify_zero_cons, List.map_cons, List.cons.injEq, Prod.mk.injEq]
        exact ⟨⟨h2 e (by rw [hk, hx]), h1 e⟩, ht⟩
    · have hpx : (p.1 == x) = false := by rw [beq_eq_false_iff_ne]; exact hx
      obtain ⟨j, h1, h2, h3⟩ := findNow_str x es r (i + 1) ht
      have hg : getS (p :: r) x = getS r x := by simp [getS, hpx]
      refine ⟨j, ?_, ?_, ?_⟩
      · simp only [Instr.findNow, Instr.sameNow, hk]
        have : (x == p.1) = false := by rw [beq_eq_false_iff_ne]; exact fun e => hx e.symm
        rw [this, hg]
        exact h1
      · intro v hv2
        rw [hg] at hv2
        obtain ⟨a, e2, he2, he3⟩ := h2 v hv2
        refine ⟨by omega, e2, ?_, he3⟩
        rw [show j - i = (j - (i + 1)) + 1 from by omega]
        simpa using he2
      · intro v k hne h4 h5
        rw [hg] at hne
        have hle : i + 1 ≤ j := by
          cases hgr : getS r x with
          | none => exact absurd hgr hne
          | some u => exact (h2 u hgr).1
        have h6 := h3 v k hne h4 h5
        have hpp : putS (p :: r) x v = p :: putS r x v := by simp [putS, hpx]
        rw [hpp, show j - i = (j - (i + 1)) + 1 from by omega]
        simp only [List.modify_succ_cons, List.map_cons, h6, hk, hv]

set_option maxRecDepth 100000 in
/-- 'v, ok := m[k]'. -/
theorem run_lookup_str {t kt e : TypeId} (ht : P.underlying t = some (.map kt e)) (hk : P.underlying kt = some .string) {z : Value} (hz : ∀ w, (zeroValue e).run P w = .ok z w)
    (h : MapS w b m) (x : ByteArray) : (Instr.lookup t (.map (some b)) (.string x) true).run P w = .ok (.tuple #[(getS m x).getD z, .bool (getS m x).isSome]) w := by
  obtain ⟨es, c, hb, he, hst⟩ := h
  obtain ⟨j, h1, _, _⟩ := findNow_str x es.toList m 0 he
  have hck : ∀ empty, (Instr.checkKey empty 10000 kt (.string x)).run P w = .ok () w := fun empty => MapKept.run_checkKey hk (by simp [MapKept.IsKey]) empty 9999
  cases hg : getS m x with
  | none =>
    rw [hg] at h1
    simp [Instr.lookup, run_underlying ht, MapKept.run_getObj_map hb, hck, Instr.findKey, run_underlying hk, h1, hz, Result.andThen]
  | some v =>
    rw [hg] at h1
    simp [Instr.lookup, run_underlying ht, MapKept.run_getObj_map hb, hck, Instr.findKey, run_underlying hk, h1, Result.andThen]
set_option maxRecDepth 100000 in
/-- 'v := m[k]'. -/
theorem run_lookup_str1 {t kt e : TypeId} (ht : P.underlying t = some (.map kt e)) (hk : P.underlying kt = some .string) {z : Value} (hz : ∀ w, (zeroValue e).run P w = .ok z w)
    (h : MapS w b m) (x : ByteArray) : (Instr.lookup t (.map (some b)) (.string x) false).run P w = .ok ((getS m x).getD z) w := by
  obtain ⟨es, c, hb, he, hst⟩ := h
  obtain ⟨j, h1, _, _⟩ := findNow_str x es.toList m 0 he
  have hck : ∀ empty, (Instr.checkKey empty 10000 kt (.string x)).run P w = .ok () w := fun empty => MapKept.run_checkKey hk (by simp [MapKept.IsKey]) empty 9999
  cases hg : getS m x with
  | none =>
    rw [hg] at h1
    simp [Instr.lookup, run_underlying ht, MapKept.run_getObj_map hb, hck, Instr.findKey, run_underlying hk, h1, hz, Result.andThen]
  | some v =>
    rw [hg] at h1
    simp [Instr.lookup, run_underlying ht, MapKept.run_getObj_map hb, hck, Instr.findKey, run_underlying hk, h1, Result.andThen]
set_option maxRecDepth 100000 in
/-- 'm[k] = v'. -/
theorem run_mapUpdate_str {t kt e : TypeId} (ht : P.underlying t = some (.map kt e)) (hk : P.underlying kt = some .string)
    (h : MapS w b m) (x : ByteArray) (v : Value) : ∃ w', (Instr.mapUpdate t (.map (some b)) (.string x) v).run P w = .ok () w' ∧ MapS w' b (putS m x v) ∧ Chg [b] w w' := by
  obtain ⟨es, c, hb, he, hst⟩ := h
  have hlt := (Array.getElem?_eq_some_iff.1 hb).1
  obtain ⟨j, h1, h2, h3⟩ := findNow_str x es.toList m 0 he
  have hck : ∀ empty, (Instr.checkKey empty 10000 kt (.string x)).run P w = .ok () w := fun empty => MapKept.run_checkKey hk (by simp [MapKept.IsKey]) empty 9999
  have hchg : ∀ o : Obj, Chg [b] w { w with heap := w.heap.setIfInBounds b o } := fun o =>
    ⟨rfl, rfl, rfl, by simp, fun k _ hn => by
      have : b ≠ k := fun e => hn (by simp [e])
      simp [this]⟩
  cases hg : getS m x with
  | none =>
    rw [hg] at h1
    refine ⟨{ w with heap := w.heap.setIfInBounds b (.map (es.push { key := .string x, val := v, born := c }) (c + 1)) }, ?_, ⟨es.push { key := .string x, val := v, born := c }, c + 1, by simp [hlt], ?_, ?_⟩, hchg _⟩
    · simp [Instr.mapUpdate, run_underlying ht, MapKept.run_getObj_map hb, hck, Instr.findKey, run_underlying hk, h1, MapKept.run_setObj_map _ hb, Result.andThen]
    · have hput : putS m x v = m ++ [(x, v)] := by
        clear h1 h2 h3 he
        induction m with
        | nil => rfl
        | cons p r ih =>
          have hp : (p.1 == x) = false := by
            cases hp : p.1 == x
            · rfl
            · simp [getS, hp] at hg
          have hr : getS r x = none := by
            have : getS (p :: r) x = getS r x := by simp [getS, hp]
            rw [← this]
            exact hg
          simp [putS, hp, ih hr]
      rw [hput]
      simp [he]
    · intro e hm
      simp only [Array.toList_push, List.mem_append, List.mem_singleton] at hm
      rcases hm with hm | rfl
      · exact Nat.lt_succ_of_lt (hst e hm)
      · exact Nat.lt_succ_self _
  | some u =>
    rw [hg] at h1
    obtain ⟨_, e0, he0, hek⟩ := h2 u hg
    have he0' : es[j]? = some e0 := by simpa using he0
    refine ⟨{ w with heap := w.heap.setIfInBounds b (.map (es.modify j fun e => { e with key := .string x, val := v }) c) }, ?_, ⟨es.modify j fun e => { e with key := .string x, val := v }, c, by simp [hlt], ?_, ?_⟩, hchg _⟩
    · simp [Instr.mapUpdate, run_underlying ht, MapKept.run_getObj_map hb, hck, Instr.findKey, run_underlying hk, h1, MapKept.run_setObj_map _ hb, Result.andThen, he0', hek, Instr.keyThatStays, Instr.sameBits]
    · have h4 := h3 v (fun v e => { e with key := .string x, val := v }) (by rw [hg]; simp) (fun _ => rfl) (fun _ _ => rfl)
      simpa using h4
    · intro e hm
      rw [Array.toList_modify] at hm
      rcases List.mem_iff_getElem?.1 hm with ⟨i, hi⟩
      rw [List.getElem?_modify] at hi
      cases hgi : es.toList[i]? with
      | none => rw [hgi] at hi; simp at hi
      | some e1 =>
        rw [hgi] at hi
        have hb1 := hst e1 (List.mem_of_getElem? hgi)
        simp only [Option.map_eq_map, Option.map_some, Option.some.injEq] at hi
        rw [← hi]
        split <;> exact hb1
end


section
variable {P : Program} {w w' : World} {b : Nat} {m : List (ByteArray × Value)}
/-- An entry of the map b is held by its stamp c: the key x, that was not there. -/
def EntryAt (w : World) (b : Nat) (m : List (ByteArray × Value)) (x : ByteArray) (c : Nat) : Prop :=
  ∃ (es : Array MapEntry) (z : Value), w.heap[b]? = some (.map (es.push { key := .string x, val := z, born := c }) (c + 1)) ∧ es.toList.map (fun e => (e.key, e.val)) = (m.map fun p => (Value.string p.1, p.2)) ∧ (∀ e ∈ es.toList, e.born < c) ∧ getS m x = none
theorem putS_new {α : Type} : ∀ (m : List (ByteArray × α)) (x : ByteArray) (v : α), getS m x = none → putS m x v = m ++ [(x, v)]
  | [], _, _, _ => rfl
  | p :: r, x, v, h => by
    have hp : (p.1 == x) = false := by
      cases hp : p.1 == x
      · rfl
      · simp [getS, hp] at h
    have hr : getS r x = none := by
      have : getS (p :: r) x = getS r x := by simp [getS, hp]
      rw [← this]
      exact h
    simp [putS, hp, putS_new r x v hr]
set_option maxRecDepth 100000 in
theorem run_mapEntry_str {t kt e : TypeId} (ht : P.underlying t = some (.map kt e)) (hk : P.underlying kt = some .string) {z : Value} (hz : ∀ w, (zeroValue e).run P w = .ok z w)
    (h : MapS w b m) (x : ByteArray) (hx : getS m x = none) : ∃ c w', (Instr.mapEntry t (.map (some b)) (.string x)).run P w = .ok (.tuple #[z, .int .i64 (c : Nat)]) w' ∧ EntryAt w' b m x c ∧ Chg [b] w w' := by
  obtain ⟨es, c, hb, he, hst⟩ := h
  have hlt := (Array.getElem?_eq_some_iff.1 hb).1
  obtain ⟨j, h1, _, _⟩ := findNow_str x es.toList m 0 he
  have hck : ∀ empty, (Instr.checkKey empty 10000 kt (.string x)).run P w = .ok () w := fun empty => MapKept.run_checkKey hk (by simp [MapKept.IsKey]) empty 9999
  rw [hx] at h1
  refine ⟨c, { w with heap := w.heap.setIfInBounds b (.map (es.push { key := .string x, val := z, born := c }) (c + 1)) }, ?_, ⟨es, z, by simp [hlt], he, hst, hx⟩, ⟨rfl, rfl, rfl, by simp, fun k _ hn => by
      have : b ≠ k := fun e => hn (by simp [e])
      simp [this]⟩⟩
  simp [Instr.mapEntry, run_underlying ht, MapKept.run_getObj_map hb, hck, Instr.findKey, run_underlying hk, h1, hz, MapKept.run_setObj_map _ hb, Result.andThen, goInt]
set_option maxRecDepth 100000 in
theorem run_entryStore_str {t : TypeId} {x : ByteArray} {c : Nat} (h : EntryAt w b m x c) (v : Value) : ∃ w', (Instr.entryStore t (.map (some b)) (.int .i64 (c : Nat)) v).run P w = .ok () w' ∧ MapS w' b (putS m x v) ∧ Chg [b] w w' := by
  obtain ⟨es, z, hb, he, hst, hx⟩ := h
  have hlt := (Array.getElem?_eq_some_iff.1 hb).1
  have hfi : (es.push { key := .string x, val := z, born := c }).findIdx? (fun e => (e.born : Int) == (c : Int)) = some es.size := by
    rw [Array.findIdx?_push, Array.findIdx?_eq_none_iff.2 fun y hy => by
      have := hst y (by simpa using hy)
      simp only [beq_eq_false_iff_ne, ne_eq]
      omega]
    simp
  refine ⟨{ w with heap := w.heap.setIfInBounds b (.map ((es.push { key := .string x, val := z, born := c }).modify es.size fun e => { e with val := v }) (c + 1)) }, ?_, ⟨((es.push { key := .string x, val := z, born := c }).modify es.size fun e => { e with val := v }), c + 1, by simp [hlt], ?_, ?_⟩, ⟨rfl, rfl, rfl, by simp, fun k _ hn => by
      have : b ≠ k := fun e => hn (by simp [e])
      simp [this]⟩⟩
  · simp [Instr.entryStore, MapKept.run_getObj_map hb, asInt, asIntOf, hfi, MapKept.run_setObj_map _ hb, Result.andThen]
  · rw [putS_new m x v hx]
    have : ((es.push { key := .string x, val := z, born := c }).modify es.size fun e => { e with val := v }).toList = es.toList ++ [{ key := .string x, val := v, born := c }] := by
      rw [Array.toList_modify, Array.toList_push]
      apply List.ext_getElem?
      intro i
      rw [List.getElem?_modify]
      by_cases hi : i < es.size
      · rw [List.getElem?_append_left (by simpa using hi), List.getElem?_append_left (by simpa using hi)]
        have hne : ¬ es.size = i := by omega
        simp [hne]
      · rw [List.getElem?_append_right (by simpa using hi), List.getElem?_append_right (by simpa using hi), Array.length_toList]
        by_cases h0 : i = es.size
        · subst h0
          simp
        · rw [List.getElem?_eq_none (by simp; omega), List.getElem?_eq_none (by simp; omega)]
          rfl
    rw [this]
    simp [he]
  · intro e hm
    rw [Array.toList_modify] at hm
    rcases List.mem_iff_getElem?.1 hm with ⟨i, hi⟩
    rw [List.getElem?_modify] at hi
    cases hgi : (es.push { key := .string x, val := z, born := c }).toList[i]? with
    | none => rw [hgi] at hi; simp at hi
    | some e1 =>
      rw [hgi] at hi
      have hb1 : e1.born < c + 1 := by
        have hm1 := List.mem_of_getElem? hgi
        simp only [Array.toList_push, List.mem_append, List.mem_singleton] at hm1
        rcases hm1 with hm1 | rfl
        · exact Nat.lt_succ_of_lt (hst e1 hm1)
        · exact Nat.lt_succ_self _
      simp only [Option.map_eq_map, Option.map_some, Option.some.injEq] at hi
      rw [← hi]
      split <;> exact hb1
end

end Go.Proofs.YtnfabgbidkddhaaGreatDoor
