/-
  Maps by whole numbers, as the call's own memory holds them: what is looked up, what is stored. Over any program.
-/
import Derived.Test.YtkgpflobbmagaaaMem
import Derived.MapKept
namespace Go.Proofs.Ytkgpflobbmagaaa
open Go.RowKit

/-- Block b is a map by ints that holds just these, in this order. -/
def MapI (w : World) (b : Nat) (m : List (Int × Value)) : Prop :=
  ∃ es clock, w.heap[b]? = some (.map es clock) ∧ es.toList.map (fun e => (e.key, e.val)) = m.map fun p => (Value.int .i64 p.1, p.2)

/-- What a key has. -/
def getI (m : List (Int × Value)) (x : Int) : Option Value := (m.find? (fun p => p.1 == x)).map (·.2)
/-- A key set. -/
def putI : List (Int × Value) → Int → Value → List (Int × Value)
  | [], x, v => [(x, v)]
  | p :: r, x, v => if p.1 == x then (x, v) :: r else p :: putI r x v

theorem getI_nil (x : Int) : getI [] x = none := rfl
theorem getI_put_same : ∀ (m : List (Int × Value)) (x : Int) (v : Value), getI (putI m x v) x = some v
  | [], x, v => by simp [putI, getI]
  | p :: r, x, v => by
    unfold putI
    by_cases h : p.1 == x
    · simp [h, getI]
    · have ih := getI_put_same r x v
      simp only [getI] at ih ⊢
      simp only [h, Bool.false_eq_true, if_false, List.find?_cons]
      exact ih
theorem getI_put_other : ∀ (m : List (Int × Value)) (x y : Int) (v : Value), x ≠ y → getI (putI m x v) y = getI m y
  | [], x, y, v, h => by simp [putI, getI, h]
  | p :: r, x, y, v, h => by
    have ih := getI_put_other r x y v h
    unfold putI
    by_cases h1 : p.1 == x
    · have h2 : (p.1 == y) = false := by
        rw [beq_iff_eq] at h1
        rw [beq_eq_false_iff_ne, h1]
        exact h
      have h3 : (x == y) = false := by rw [beq_eq_false_iff_ne]; exact h
      simp [h1, getI, h2, h3]
    · simp only [h1, Bool.false_eq_true, if_false]
      simp only [getI, List.find?_cons] at ih ⊢
      cases h2 : p.1 == y
      · exact ih
      · rfl

section
variable {P : Program} {w w' : World} {b : Nat} {m : List (Int × Value)}

theorem MapI.lt (h : MapI w b m) : b < w.heap.size := by
  obtain ⟨es, c, hb, _⟩ := h
  exact (Array.getElem?_eq_some_iff.1 hb).1
theorem MapI.keep (h : MapI w b m) (hk : w'.heap[b]? = w.heap[b]?) : MapI w' b m := by
  obtain ⟨es, c, hb, he⟩ := h
  exact ⟨es, c, hk.trans hb, he⟩
theorem MapI.chg {S : List Nat} (h : MapI w b m) (hc : Chg S w w') (hn : b ∉ S) : MapI w' b m := h.keep (hc.block b h.lt hn)
theorem MapI.alloc (h : MapI w b m) (o : Obj) : MapI (w.alloc o) b m := h.keep (Below.heap_alloc w o b h.lt)
theorem MapI.new (w : World) : MapI (w.alloc (.map #[] 0)) w.heap.size [] := ⟨#[], 0, by show (w.heap.push _)[w.heap.size]? = _; simp, rfl⟩
theorem MapI.ne_blk {g : Nat} {t : TypeId} {cs : Array Value} (h : MapI w b m) (hb : Blk w g t cs) : b ≠ g := by
  rintro rfl
  obtain ⟨es, c, h1, _⟩ := h
  unfold Blk at hb
  rw [h1] at hb
  cases hb

theorem findNow_int (x : Int) : ∀ (es : List MapEntry) (m : List (Int × Value)) (i : Nat), es.map (fun e => (e.key, e.val)) = m.map (fun p => (Value.int .i64 p.1, p.2)) →
    ∃ j, Instr.findNow (.int .i64) (.int .i64 x) es i = some ((getI m x).map fun v => (j, v)) ∧
      (∀ v, getI m x = some v → i ≤ j ∧ (∃ e, es[j - i]? = some e ∧ e.key = .int .i64 x)) ∧
      ∀ (v : Value) (k : Value → MapEntry → MapEntry), getI m x ≠ none → (∀ e, (k v e).val = v) → (∀ e, e.key = .int .i64 x → (k v e).key = .int .i64 x) → (es.modify (j - i) (k v)).map (fun e => (e.key, e.val)) = (putI m x v).map (fun p => (Value.int .i64 p.1, p.2))
  | [], [], i, _ => ⟨0, rfl, (fun v h => by simp [getI] at h), (fun v k h _ _ => absurd rfl h)⟩
  | [], p :: r, i, h => by simp at h
  | e :: es, [], i, h => by simp at h
  | e :: es, p :: r, i, h => by
    simp only [List.map_cons, List.cons.injEq, Prod.mk.injEq] at h
    obtain ⟨⟨hk, hv⟩, ht⟩ := h
    by_cases hx : p.1 = x
    · have hpx : (p.1 == x) = true := by simpa using hx
      have hg : getI (p :: r) x = some p.2 := by simp [getI, hpx]
      refine ⟨i, ?_, ?_, ?_⟩
      · simp only [Instr.findNow, Instr.sameNow, hk, if_true]
        have : (x == p.1) = true := by simp [hx]
        rw [this, hg, hv]
        rfl
      · intro v hv2
        exact ⟨Nat.le_refl _, e, by simp, by rw [hk, hx]⟩
      · intro v k _ h1 h2
        have hpp : putI (p :: r) x v = (x, v) :: r := by simp [putI, hpx]
        rw [hpp, Nat.sub_self]
        simp only [List.modify_zero_cons, List.map_cons, List.cons.injEq, Prod.mk.injEq]
        exact ⟨⟨h2 e (by rw [hk, hx]), h1 e⟩, ht⟩
    · have hpx : (p.1 == x) = false := by rw [beq_eq_false_iff_ne]; exact hx
      obtain ⟨j, h1, h2, h3⟩ := findNow_int x es r (i + 1) ht
      have hg : getI (p :: r) x = getI r x := by simp [getI, hpx]
      refine ⟨j, ?_, ?_, ?_⟩
      · simp only [Instr.findNow, Instr.sameNow, hk, if_true]
        have : (x == p.1) = false := by rw [beq_eq_false_iff_ne]; exact fun e => hx e.symm
        rw [this, hg]
        exact h1
      · intro v hv2
        rw [hg] at hv2
        obtain ⟨a, e2, he2, he3⟩ := h2 v hv2
        refine ⟨by omega, e2, ?_, he3⟩
        rw [show j - i = (j - (i + 1)) + 1 from by omega]
        simpa using he2
      · intro v k hne h4 h5
        rw [hg] at hne
        have hle : i + 1 ≤ j := by
          cases hgr : getI r x with
          | none => exact absurd hgr hne
          | some u => exact (h2 u hgr).1
        have h6 := h3 v k hne h4 h5
        have hpp : putI (p :: r) x v = p :: putI r x v := by simp [putI, hpx]
        rw [hpp, show j - i = (j - (i + 1)) + 1 from by omega]
        simp only [List.modify_succ_cons, List.map_cons, h6, hk, hv]

set_option maxRecDepth 100000 in
/-- 'v, ok := m[k]'. -/
theorem run_lookup_int {t kt e : TypeId} (ht : P.underlying t = some (.map kt e)) (hk : P.underlying kt = some (.int .i64)) {z : Value} (hz : ∀ w, (zeroValue e).run P w = .ok z w)
    (h : MapI w b m) (x : Int) : (Instr.lookup t (.map (some b)) (.int .i64 x) true).run P w = .ok (.tuple #[(getI m x).getD z, .bool (getI m x).isSome]) w := by
  obtain ⟨es, c, hb, he⟩ := h
  obtain ⟨j, h1, _, _⟩ := findNow_int x es.toList m 0 he
  have hck : ∀ empty, (Instr.checkKey empty 10000 kt (.int .i64 x)).run P w = .ok () w := fun empty => MapKept.run_checkKey hk (by simp [MapKept.IsKey]) empty 9999
  cases hg : getI m x with
  | none =>
    rw [hg] at h1
    simp [Instr.lookup, run_underlying ht, MapKept.run_getObj_map hb, hck, Instr.findKey, run_underlying hk, h1, hz, Result.andThen]
  | some v =>
    rw [hg] at h1
    simp [Instr.lookup, run_underlying ht, MapKept.run_getObj_map hb, hck, Instr.findKey, run_underlying hk, h1, Result.andThen]
set_option maxRecDepth 100000 in
/-- 'v := m[k]'. -/
theorem run_lookup_int1 {t kt e : TypeId} (ht : P.underlying t = some (.map kt e)) (hk : P.underlying kt = some (.int .i64)) {z : Value} (hz : ∀ w, (zeroValue e).run P w = .ok z w)
    (h : MapI w b m) (x : Int) : (Instr.lookup t (.map (some b)) (.int .i64 x) false).run P w = .ok ((getI m x).getD z) w := by
  obtain ⟨es, c, hb, he⟩ := h
  obtain ⟨j, h1, _, _⟩ := findNow_int x es.toList m 0 he
  have hck : ∀ empty, (Instr.checkKey empty 10000 kt (.int .i64 x)).run P w = .ok () w := fun empty => MapKept.run_checkKey hk (by simp [MapKept.IsKey]) empty 9999
  cases hg : getI m x with
  | none =>
    rw [hg] at h1
    simp [Instr.lookup, run_underlying ht, MapKept.run_getObj_map hb, hck, Instr.findKey, run_underlying hk, h1, hz, Result.andThen]
  | some v =>
    rw [hg] at h1
    simp [Instr.lookup, run_underlying ht, MapKept.run_getObj_map hb, hck, Instr.findKey, run_underlying hk, h1, Result.andThen]
set_option maxRecDepth 100000 in
/-- 'm[k] = v'. -/
theorem run_mapUpdate_int {t kt e : TypeId} (ht : P.underlying t = some (.map kt e)) (hk : P.underlying kt = some (.int .i64))
    (h : MapI w b m) (x : Int) (v : Value) : ∃ w', (Instr.mapUpdate t (.map (some b)) (.int .i64 x) v).run P w = .ok () w' ∧ MapI w' b (putI m x v) ∧ Chg [b] w w' := by
  obtain ⟨es, c, hb, he⟩ := h
  have hlt := (Array.getElem?_eq_some_iff.1 hb).1
  obtain ⟨j, h1, h2, h3⟩ := findNow_int x es.toList m 0 he
  have hck : ∀ empty, (Instr.checkKey empty 10000 kt (.int .i64 x)).run P w = .ok () w := fun empty => MapKept.run_checkKey hk (by simp [MapKept.IsKey]) empty 9999
  have hchg : ∀ o : Obj, Chg [b] w { w with heap := w.heap.setIfInBounds b o } := fun o =>
    ⟨rfl, rfl, rfl, by simp, fun k _ hn => by
      have : b ≠ k := fun e => hn (by simp [e])
      simp [this]⟩
  cases hg : getI m x with
  | none =>
    rw [hg] at h1
    refine ⟨{ w with heap := w.heap.setIfInBounds b (.map (es.push { key := .int .i64 x, val := v, born := c }) (c + 1)) }, ?_, ⟨es.push { key := .int .i64 x, val := v, born := c }, c + 1, by simp [hlt], ?_⟩, hchg _⟩
    · simp [Instr.mapUpdate, run_underlying ht, MapKept.run_getObj_map hb, hck, Instr.findKey, run_underlying hk, h1, MapKept.run_setObj_map _ hb, Result.andThen]
    · have hput : putI m x v = m ++ [(x, v)] := by
        clear h1 h2 h3 he
        induction m with
        | nil => rfl
        | cons p r ih =>
          have hp : (p.1 == x) = false := by
            cases hp : p.1 == x
            · rfl
            · simp [getI, hp] at hg
          have hr : getI r x = none := by
            have : getI (p :: r) x = getI r x := by simp [getI, hp]
            rw [← this]
            exact hg
          simp [putI, hp, ih hr]
      rw [hput]
      simp [he]
  | some u =>
    rw [hg] at h1
    obtain ⟨_, e0, he0, hek⟩ := h2 u hg
    have he0' : es[j]? = some e0 := by simpa using he0
    refine ⟨{ w with heap := w.heap.setIfInBounds b (.map (es.modify j fun e => { e with key := .int .i64 x, val := v }) c) }, ?_, ⟨es.modify j fun e => { e with key := .int .i64 x, val := v }, c, by simp [hlt], ?_⟩, hchg _⟩
    · simp [Instr.mapUpdate, run_underlying ht, MapKept.run_getObj_map hb, hck, Instr.findKey, run_underlying hk, h1, MapKept.run_setObj_map _ hb, Result.andThen, he0', hek, Instr.keyThatStays, Instr.sameBits]
    · have h4 := h3 v (fun v e => { e with key := .int .i64 x, val := v }) (by rw [hg]; simp) (fun _ => rfl) (fun _ _ => rfl)
      simpa using h4
end

end Go.Proofs.Ytkgpflobbmagaaa
