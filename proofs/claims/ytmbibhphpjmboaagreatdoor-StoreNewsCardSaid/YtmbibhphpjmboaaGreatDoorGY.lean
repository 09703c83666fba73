/-
  Maps by whole numbers, as the call's own memory holds them: what is looked up, what is stored. Over any program.
  The walks of lists.add and lists.told: what befell ids.
  The walk of lists.told: the three lists of what befell ids.
  What Since keeps in memory while it goes through what was taken; the plain step of its loop.
  The walk of Log.Since.
  A Since without a bound, in reach (as in XLogOwn, for a seat without the law's own log).
-/
import Derived.Test.YtmbibhphpjmboaaGreatDoorGA
import Derived.MapKept
import Derived.Carry
namespace Go.Proofs.YtmbibhphpjmboaaGreatDoor
open Go.RowKit

/-- Block b is a map by ints that holds just these, in this order. -/
def MapI (w : World) (b : Nat) (m : List (Int × Value)) : Prop :=
  ∃ es clock, w.heap[b]? = some (.map es clock) ∧ es.toList.map (fun e => (e.key, e.val)) = m.map fun p => (Value.int .i64 p.1, p.2)

/-- What a key has. -/
def getI (m : List (Int × Value)) (x : Int) : Option Value := (m.find? (fun p => p.1 == x)).map (·.2)
/-- A key set. -/
def putI : List (Int × Value) → Int → Value → List (Int × Value)
  | [], x, v => [(x, v)]
  | p :: r, x, v => if p.1 == x then (x, v) :: r else p :: putI r x v

theorem getI_nil (x : Int) : getI [] x = none := rfl
theorem getI_put_same : ∀ (m : List (Int × Value)) (x : Int) (v : Value), getI (putI m x v) x = some v
  | [], x, v => by simp [putI, getI]
  | p :: r, x, v => by
    unfold putI
    by_cases h : p.1 == x
    · simp [h, getI]
    · have ih := getI_put_same r x v
      simp only [getI] at ih ⊢
      simp only [h, Bool.false_eq_true, if_false, List.find?_cons]
      exact ih
theorem getI_put_other : ∀ (m : List (Int × Value)) (x y : Int) (v : Value), x ≠ y → getI (putI m x v) y = getI m y
  | [], x, y, v, h => by simp [putI, getI, h]
  | p :: r, x, y, v, h => by
    have ih := getI_put_other r x y v h
    unfold putI
    by_cases h1 : p.1 == x
    · have h2 : (p.1 == y) = false := by
        rw [beq_iff_eq] at h1
        rw [beq_eq_false_iff_ne, h1]
        exact h
      have h3 : (x == y) = false := by rw [beq_eq_false_iff_ne]; exact h
      simp [h1, getI, h2, h3]
    · simp only [h1, Bool.false_eq_true, if_false]
      simp only [getI, List.find?_cons] at ih ⊢
      cases h2 : p.1 == y
      · exact ih
      · rfl

section
variable {P : Program} {w w' : World} {b : Nat} {m : List (Int × Value)}

theorem MapI.lt (h : MapI w b m) : b < w.heap.size := by
  obtain ⟨es, c, hb, _⟩ := h
  exact (Array.getElem?_eq_some_iff.1 hb).1
theorem MapI.keep (h : MapI w b m) (hk : w'.heap[b]? = w.heap[b]?) : MapI w' b m := by
  obtain ⟨es, c, hb, he⟩ := h
  exact ⟨es, c, hk.trans hb, he⟩
theorem MapI.chg {S : List Nat} (h : MapI w b m) (hc : Chg S w w') (hn : b ∉ S) : MapI w' b m := h.keep (hc.block b h.lt hn)
theorem MapI.alloc (h : MapI w b m) (o : Obj) : MapI (w.alloc o) b m := h.keep (Below.heap_alloc w o b h.lt)
theorem MapI.new (w : World) : MapI (w.alloc (.map #[] 0)) w.heap.size [] := ⟨#[], 0, by show (w.heap.push _)[w.heap.size]? = _; simp, rfl⟩
theorem MapI.ne_blk {g : Nat} {t : TypeId} {cs : Array Value} (h : MapI w b m) (hb : Blk w g t cs) : b ≠ g := by
  rintro rfl
  obtain ⟨es, c, h1, _⟩ := h
  unfold Blk at hb
  rw [h1] at hb
  cases hb

theorem findNow_int (x : Int) : ∀ (es : List MapEntry) (m : List (Int × Value)) (i : Nat), es.map (fun e => (e.key, e.val)) = m.map (fun p => (Value.int .i64 p.1, p.2)) →
    ∃ j, Instr.findNow (.int .i64) (.int .i64 x) es i = some ((getI m x).map fun v => (j, v)) ∧
      (∀ v, getI m x = some v → i ≤ j ∧ (∃ e, es[j - i]? = some e ∧ e.key = .int .i64 x)) ∧
      ∀ (v : Value) (k : Value → MapEntry → MapEntry), getI m x ≠ none → (∀ e, (k v e).val = v) → (∀ e, e.key = .int .i64 x → (k v e).key = .int .i64 x) → (es.modify (j - i) (k v)).map (fun e => (e.key, e.val)) = (putI m x v).map (fun p => (Value.int .i64 p.1, p.2))
  | [], [], i, _ => ⟨0, rfl, (fun v h => by simp [getI] at h), (fun v k h _ _ => absurd rfl h)⟩
  | [], p :: r, i, h => by simp at h
  | e :: es, [], i, h => by simp at h
  | e :: es, p :: r, i, h => by
    simp only [List.map_cons, List.cons.injEq, Prod.mk.injEq] at h
    obtain ⟨⟨hk, hv⟩, ht⟩ := h
    by_cases hx : p.1 = x
    · have hpx : (p.1 == x) = true := by simpa using hx
      have hg : getI (p :: r) x = some p.2 := by simp [getI, hpx]
      refine ⟨i, ?_, ?_, ?_⟩
      · simp only [Instr.findNow, Instr.sameNow, hk, if_true]
        have : (x == p.1) = true := by simp [hx]
        rw [this, hg, hv]
        rfl
      · intro v hv2
        exact ⟨Nat.le_refl _, e, by simp, by rw [hk, hx]⟩
      · intro v k _ h1 h2
        have hpp : putI (p :: r) x v = (x, v) :: r := by simp [putI, hpx]
        rw [hpp, Nat.sub_self]
        simp only [List.modify_zero_cons, List.map_cons, List.cons.injEq, Prod.mk.injEq]
        exact ⟨⟨h2 e (by rw [hk, hx]), h1 e⟩, ht⟩
    · have hpx : (p.1 == x) = false := by rw [beq_eq_false_iff_ne]; exact hx
      obtain ⟨j, h1, h2, h3⟩ := findNow_int x es r (i + 1) ht
      have hg : getI (p :: r) x = getI r x := by simp [getI, hpx]
      refine ⟨j, ?_, ?_, ?_⟩
      · simp only [Instr.findNow, Instr.sameNow, hk, if_true]
        have : (x == p.1) = false := by rw [beq_eq_false_iff_ne]; exact fun e => hx e.symm
        rw [this, hg]
        exact h1
      · intro v hv2
        rw [hg] at hv2
        obtain ⟨a, e2, he2, he3⟩ := h2 v hv2
        refine ⟨by omega, e2, ?_, he3⟩
        rw [show j - i = (j - (i + 1)) + 1 from by omega]
        simpa using he2
      · intro v k hne h4 h5
        rw [hg] at hne
        have hle : i + 1 ≤ j := by
          cases hgr : getI r x with
          | none => exact absurd hgr hne
          | some u => exact (h2 u hgr).1
        have h6 := h3 v k hne h4 h5
        have hpp : putI (p :: r) x v = p :: putI r x v := by simp [putI, hpx]
        rw [hpp, show j - i = (j - (i + 1)) + 1 from by omega]
        simp only [List.modify_succ_cons, List.map_cons, h6, hk, hv]

set_option maxRecDepth 100000 in
/-- 'v, ok := m[k]'. -/
theorem run_lookup_int {t kt e : TypeId} (ht : P.underlying t = some (.map kt e)) (hk : P.underlying kt = some (.int .i64)) {z : Value} (hz : ∀ w, (zeroValue e).run P w = .ok z w)
    (h : MapI w b m) (x : Int) : (Instr.lookup t (.map (some b)) (.int .i64 x) true).run P w = .ok (.tuple #[(getI m x).getD z, .bool (getI m x).isSome]) w := by
  obtain ⟨es, c, hb, he⟩ := h
  obtain ⟨j, h1, _, _⟩ := findNow_int x es.toList m 0 he
  have hck : ∀ empty, (Instr.checkKey empty 10000 kt (.int .i64 x)).run P w = .ok () w := fun empty => MapKept.run_checkKey hk (by simp [MapKept.IsKey]) empty 9999
  cases hg : getI m x with
  | none =>
    rw [hg] at h1
    simp [Instr.lookup, run_underlying ht, MapKept.run_getObj_map hb, hck, Instr.findKey, run_underlying hk, h1, hz, Result.andThen]
  | some v =>
    rw [hg] at h1
    simp [Instr.lookup, run_underlying ht, MapKept.run_getObj_map hb, hck, Instr.findKey, run_underlying hk, h1, Result.andThen]
set_option maxRecDepth 100000 in
/-- 'v := m[k]'. -/
theorem run_lookup_int1 {t kt e : TypeId} (ht : P.underlying t = some (.map kt e)) (hk : P.underlying kt = some (.int .i64)) {z : Value} (hz : ∀ w, (zeroValue e).run P w = .ok z w)
    (h : MapI w b m) (x : Int) : (Instr.lookup t (.map (some b)) (.int .i64 x) false).run P w = .ok ((getI m x).getD z) w := by
  obtain ⟨es, c, hb, he⟩ := h
  obtain ⟨j, h1, _, _⟩ := findNow_int x es.toList m 0 he
  have hck : ∀ empty, (Instr.checkKey empty 10000 kt (.int .i64 x)).run P w = .ok () w := fun empty => MapKept.run_checkKey hk (by simp [MapKept.IsKey]) empty 9999
  cases hg : getI m x with
  | none =>
    rw [hg] at h1
    simp [Instr.lookup, run_underlying ht, MapKept.run_getObj_map hb, hck, Instr.findKey, run_underlying hk, h1, hz, Result.andThen]
  | some v =>
    rw [hg] at h1
    simp [Instr.lookup, run_underlying ht, MapKept.run_getObj_map hb, hck, Instr.findKey, run_underlying hk, h1, Result.andThen]
set_option maxRecDepth 100000 in
/-- 'm[k] = v'. -/
theorem run_mapUpdate_int {t kt e : TypeId} (ht : P.underlying t = some (.map kt e)) (hk : P.underlying kt = some (.int .i64))
    (h : MapI w b m) (x : Int) (v : Value) : ∃ w', (Instr.mapUpdate t (.map (some b)) (.int .i64 x) v).run P w = .ok () w' ∧ MapI w' b (putI m x v) ∧ Chg [b] w w' := by
  obtain ⟨es, c, hb, he⟩ := h
  have hlt := (Array.getElem?_eq_some_iff.1 hb).1
  obtain ⟨j, h1, h2, h3⟩ := findNow_int x es.toList m 0 he
  have hck : ∀ empty, (Instr.checkKey empty 10000 kt (.int .i64 x)).run P w = .ok () w := fun empty => MapKept.run_checkKey hk (by simp [MapKept.IsKey]) empty 9999
  have hchg : ∀ o : Obj, Chg [b] w { w with heap := w.heap.setIfInBounds b o } := fun o =>
    ⟨rfl, rfl, rfl, by simp, fun k _ hn => by
      have : b ≠ k := fun e => hn (by simp [e])
      simp [this]⟩
  cases hg : getI m x with
  | none =>
    rw [hg] at h1
    refine ⟨{ w with heap := w.heap.setIfInBounds b (.map (es.push { key := .int .i64 x, val := v, born := c }) (c + 1)) }, ?_, ⟨es.push { key := .int .i64 x, val := v, born := c }, c + 1, by simp [hlt], ?_⟩, hchg _⟩
    · simp [Instr.mapUpdate, run_underlying ht, MapKept.run_getObj_map hb, hck, Instr.findKey, run_underlying hk, h1, MapKept.run_setObj_map _ hb, Result.andThen]
    · have hput : putI m x v = m ++ [(x, v)] := by
        clear h1 h2 h3 he
        induction m with
        | nil => rfl
        | cons p r ih =>
          have hp : (p.1 == x) = false := by
            cases hp : p.1 == x
            · rfl
            · simp [getI, hp] at hg
          have hr : getI r x = none := by
            have : getI (p :: r) x = getI r x := by simp [getI, hp]
            rw [← this]
            exact hg
          simp [putI, hp, ih hr]
      rw [hput]
      simp [he]
  | some u =>
    rw [hg] at h1
    obtain ⟨_, e0, he0, hek⟩ := h2 u hg
    have he0' : es[j]? = some e0 := by simpa using he0
    refine ⟨{ w with heap := w.heap.setIfInBounds b (.map (es.modify j fun e => { e with key := .int .i64 x, val := v }) c) }, ?_, ⟨es.modify j fun e => { e with key := .int .i64 x, val := v }, c, by simp [hlt], ?_⟩, hchg _⟩
    · simp [Instr.mapUpdate, run_underlying ht, MapKept.run_getObj_map hb, hck, Instr.findKey, run_underlying hk, h1, MapKept.run_setObj_map _ hb, Result.andThen, he0', hek, Instr.keyThatStays, Instr.sameBits]
    · have h4 := h3 v (fun v e => { e with key := .int .i64 x, val := v }) (by rw [hg]; simp) (fun _ => rfl) (fun _ _ => rfl)
      simpa using h4
end

end Go.Proofs.YtmbibhphpjmboaaGreatDoor

namespace Go.Proofs.YtmbibhphpjmboaaGreatDoor
open Go.RowKit
attribute [local go_sem ↓] Go.wp_at_zero Go.wp_at_succ

theorem Try.infoInt : (Tryz.prog.info? 3).map (fun i => (i.zero, i.size, i.bytes)) = some (some (.int .i64 0), 1, 8) := by kernel_rfl
theorem Try.zeroSeen (w : World) : (zeroValue 203).run Tryz.prog w = .ok (.agg #[.int .i64 0, .int .i64 0]) w := by kernel_rfl

def intsV (l : List Int) : List Value := l.map (Value.int .i64)
theorem intsV_length (l : List Int) : (intsV l).length = l.length := by simp [intsV]
theorem intsV_append (a b : List Int) : intsV (a ++ b) = intsV a ++ intsV b := by simp [intsV]

/-- What the map holds of an id. -/
def seenV (s : Seen) (x : Int) : Option Value := (s.find? (fun p => p.1 == x)).map fun p => .agg #[.int .i64 p.2.1, .int .i64 p.2.2]

/-- A value of type lists in memory: its block, its ids' block, its map's block. -/
def SeenAt (w : World) (g : Nat) (h : Option Nat) (b : Nat) (s : Seen) : Prop :=
  ∃ v m, Blk w g 160 #[v, .map (some b)] ∧ Sl w 3 1 v h s.length (intsV (s.map (·.1))) ∧ MapI w b m ∧ ∀ x, getI m x = seenV s x

/-- Memory behind the first statement of add. -/
structure AddMem (w W : World) (g : Nat) (h : Option Nat) (b X Y n : Nat) (A : Option Addr) (cap : Nat) (ids : List Int) (m : List (Int × Value)) (e : E4) (a0 b0 : Int) : Prop where
  bG : Blk W g 160 #[.slice A n cap, .map (some b)]
  sI : Sl W 3 1 (.slice A n cap) h n (intsV ids)
  mM : MapI W b m
  bX : Blk W X 117 #[.int .i64 e.m, .int .i64 e.k, .int .i64 e.i, .int .i64 e.h]
  bY : Blk W Y 203 #[.int .i64 a0, .int .i64 b0]
  hX : w.heap.size ≤ X
  hY : w.heap.size ≤ Y

theorem AddMem.ne {w W : World} {g : Nat} {h : Option Nat} {b X Y n : Nat} {A : Option Addr} {cap : Nat} {ids : List Int} {m : List (Int × Value)} {e : E4} {a0 b0 : Int} (q : AddMem w W g h b X Y n A cap ids m e a0 b0) :
    g ∉ h.toList ∧ X ∉ h.toList ∧ Y ∉ h.toList ∧ b ∉ h.toList ∧ b ≠ g ∧ b ≠ X ∧ b ≠ Y ∧ g ≠ X ∧ g ≠ Y ∧ X ≠ Y := by
  refine ⟨fun hm => ?_, fun hm => ?_, fun hm => ?_, fun hm => ?_, q.mM.ne_blk q.bG, q.mM.ne_blk q.bX, q.mM.ne_blk q.bY, q.bG.ne q.bX (by decide), q.bG.ne q.bY (by decide), q.bX.ne q.bY (by decide)⟩
  · exact q.sI.ne_blk q.bG (by decide) g (by simpa using hm) rfl
  · exact q.sI.ne_blk q.bX (by decide) X (by simpa using hm) rfl
  · exact q.sI.ne_blk q.bY (by decide) Y (by simpa using hm) rfl
  · have hb : h = some b := by simpa using hm
    rcases q.sI.2 with ⟨h0, _⟩ | ⟨b', off, cap', cur, hh, _, hB, _⟩
    · rw [hb] at h0
      cases h0
    · rw [hb] at hh
      obtain rfl := Option.some.inj hh
      exact q.mM.ne_blk hB rfl

theorem AddMem.heap {w W W' : World} {g : Nat} {h : Option Nat} {b X Y n : Nat} {A : Option Addr} {cap : Nat} {ids : List Int} {m : List (Int × Value)} {e : E4} {a0 b0 : Int} (q : AddMem w W g h b X Y n A cap ids m e a0 b0) (he : W'.heap = W.heap) :
    AddMem w W' g h b X Y n A cap ids m e a0 b0 := ⟨q.bG.heap he, q.sI.heap he, q.mM.keep (by rw [he]), q.bX.heap he, q.bY.heap he, q.hX, q.hY⟩
/-- What a load reads, what a store asks. -/
structure AddCells (W : World) (g b X Y n : Nat) (A : Option Addr) (cap : Nat) (e : E4) (a0 b0 : Int) : Prop where
  g0 : W.cell? ⟨g, 0, none⟩ = some (.slice A n cap)
  g1 : W.cell? ⟨g, 1, none⟩ = some (.map (some b))
  gf : W.frozen? ⟨g, 0, none⟩ = false
  x2 : W.cell? ⟨X, 2, none⟩ = some (.int .i64 e.i)
  x3 : W.cell? ⟨X, 3, none⟩ = some (.int .i64 e.h)
  y0 : W.cell? ⟨Y, 0, none⟩ = some (.int .i64 a0)
  y1 : W.cell? ⟨Y, 1, none⟩ = some (.int .i64 b0)
  y0f : W.frozen? ⟨Y, 0, none⟩ = false
  y1f : W.frozen? ⟨Y, 1, none⟩ = false
  gl : g < W.heap.size
theorem AddMem.cells {w W : World} {g : Nat} {h : Option Nat} {b X Y n : Nat} {A : Option Addr} {cap : Nat} {ids : List Int} {m : List (Int × Value)} {e : E4} {a0 b0 : Int} (q : AddMem w W g h b X Y n A cap ids m e a0 b0) :
    AddCells W g b X Y n A cap e a0 b0 := ⟨q.bG.cell 0, q.bG.cell 1, q.bG.frozen 0, q.bX.cell 2, q.bX.cell 3, q.bY.cell 0, q.bY.cell 1, q.bY.frozen 0, q.bY.frozen 1, q.bG.lt⟩

/-- A store into the variable x. -/
theorem AddMem.setY {w W : World} {g : Nat} {h : Option Nat} {b X Y n : Nat} {A : Option Addr} {cap : Nat} {ids : List Int} {m : List (Int × Value)} {e : E4} {a0 b0 : Int} (q : AddMem w W g h b X Y n A cap ids m e a0 b0) (c : Int) :
    AddMem w (W.setCell ⟨Y, 0, none⟩ (.int .i64 c)) g h b X Y n A cap ids m e c b0 ∧ AddMem w (W.setCell ⟨Y, 1, none⟩ (.int .i64 c)) g h b X Y n A cap ids m e a0 c := by
  obtain ⟨n1, n2, n3, n4, n5, n6, n7, n8, n9, n10⟩ := q.ne
  have hh : h ≠ some Y := fun hh => n3 (by simp [hh])
  exact ⟨⟨q.bG.far n9 _, q.sI.far hh _, q.mM.keep (Below.heap_setCell W _ _ b n7), q.bX.far n10 _, q.bY.set 0 _, q.hX, q.hY⟩,
    ⟨q.bG.far n9 _, q.sI.far hh _, q.mM.keep (Below.heap_setCell W _ _ b n7), q.bX.far n10 _, q.bY.set 1 _, q.hX, q.hY⟩⟩

/-- The append of an id. -/
theorem AddMem.app {w W w2 : World} {g : Nat} {h h2 : Option Nat} {b X Y n k : Nat} {A A2 : Option Addr} {cap cap2 : Nat} {ids : List Int} {m : List (Int × Value)} {e : E4} {a0 b0 : Int} {o : Obj} (q : AddMem w W g h b X Y n A cap ids m e a0 b0)
    (hs2 : Sl w2 3 1 (.slice A2 k cap2) h2 (n + 1) (intsV ids ++ (#[.int .i64 e.i] : Array Value).toList)) (hc2 : Chg h.toList (W.alloc o).drew w2) :
    k = n + 1 ∧ AddMem w (w2.setCell ⟨g, 0, none⟩ (.slice A2 (n + 1) cap2)) g h2 b X Y (n + 1) A2 cap2 (ids ++ [e.i]) m e a0 b0 := by
  obtain ⟨n1, n2, n3, n4, n5, n6, n7, n8, n9, n10⟩ := q.ne
  have hk : k = n + 1 := by
    obtain ⟨A3, c3, hv, _⟩ := hs2.form
    injection hv
  subst hk
  have hB2 : Blk w2 g _ _ := ((q.bG.alloc o).heap rfl : Blk (W.alloc o).drew g _ _).chg hc2 n1
  have hX2 : Blk w2 X _ _ := ((q.bX.alloc o).heap rfl : Blk (W.alloc o).drew X _ _).chg hc2 n2
  have hY2 : Blk w2 Y _ _ := ((q.bY.alloc o).heap rfl : Blk (W.alloc o).drew Y _ _).chg hc2 n3
  have hM2 : MapI w2 b m := ((q.mM.alloc o).keep rfl : MapI (W.alloc o).drew b m).chg hc2 n4
  have hne : h2 ≠ some g := fun hh => hs2.ne_blk hB2 (by decide) g hh rfl
  refine ⟨rfl, hB2.set 0 _, ?_, hM2.keep (Below.heap_setCell w2 _ _ b n5), hX2.far n8.symm _, hY2.far n9.symm _, q.hX, q.hY⟩
  have h3 := hs2.far (p := ⟨g, 0, none⟩) hne (.slice A2 (n + 1) cap2)
  rw [intsV_append]
  exact h3

/-- The last statement of add, and what it leaves. -/
theorem AddMem.fin {w W : World} {g : Nat} {h : Option Nat} {b X Y n : Nat} {A : Option Addr} {cap : Nat} {ids : List Int} {m : List (Int × Value)} {e : E4} {a0 b0 : Int} (q : AddMem w W g h b X Y n A cap ids m e a0 b0) {s s' : Seen}
    (hids : ids = s'.map (·.1)) (hlen : n = s'.length) (hget : ∀ x, getI m x = seenV s x) (h1 : seenV s' e.i = some (.agg #[.int .i64 a0, .int .i64 b0])) (h2 : ∀ x, x ≠ e.i → seenV s' x = seenV s x) :
    ∃ W', (Instr.mapUpdate 158 (.map (some b)) (.int .i64 e.i) (.agg #[.int .i64 a0, .int .i64 b0])).run Tryz.prog W = .ok () W' ∧ SeenAt W' g h b s' ∧ Chg [b] W W' := by
  obtain ⟨n1, n2, n3, n4, n5, n6, n7, n8, n9, n10⟩ := q.ne
  obtain ⟨W', hr, hm, hc⟩ := run_mapUpdate_int (P := Tryz.prog) Tryz.underlying158 Tryz.underlying3 q.mM e.i (.agg #[.int .i64 a0, .int .i64 b0])
  subst hlen
  subst hids
  refine ⟨W', hr, ⟨_, _, q.bG.chg hc (by simpa using fun h => n5 h.symm), q.sI.chg hc (fun k hk => by simp; rintro rfl; exact n4 (by simp [hk])), hm, fun x => ?_⟩, hc⟩
  by_cases hx : x = e.i
  · subst hx
    rw [getI_put_same, h1]
  · rw [getI_put_other _ _ _ _ (fun h => hx h.symm), hget, h2 x hx]

set_option maxRecDepth 100000 in
set_option maxHeartbeats 2000000 in
theorem listsAdd_any (w : World) (g : Nat) (h : Option Nat) (b : Nat) (s : Seen) (e : E4) (hs : SeenAt w g h b s) (hn : s.length ≤ 2199023255552) :
    Calls Tryz.prog 103 #[.pointer (some ⟨g, 0, none⟩), .agg #[.int .i64 e.m, .int .i64 e.k, .int .i64 e.i, .int .i64 e.h]] w fun e' w' => e' = .returned (.tuple #[]) ∧
      ∃ h', SeenAt w' g h' b (addS s e) ∧ Chg (g :: b :: h.toList) w w' ∧ (h' = h ∨ ∃ k, h' = some k ∧ w.heap.size ≤ k) := by
  obtain ⟨i0, hi, hz0, hz1, hz2⟩ := info_parts Try.infoInt
  obtain ⟨v, m, hB, hsl, hM, hget⟩ := hs
  obtain ⟨A, cap, rfl, _, _⟩ := hsl.form
  have hgl := hB.lt
  have c0 : w.cell? ⟨g, 0, none⟩ = some (.slice A s.length cap) := hB.cell 0
  have c1 : w.cell? ⟨g, 1, none⟩ = some (.map (some b)) := hB.cell 1
  have hlk : ∀ W, MapI W b m → (Instr.lookup 158 (.map (some b)) (.int .i64 e.i) true).run Tryz.prog W = .ok (.tuple #[(seenV s e.i).getD (.agg #[.int .i64 0, .int .i64 0]), .bool (seenV s e.i).isSome]) W := fun W hW => by
    rw [← hget]
    exact run_lookup_int Tryz.underlying158 Tryz.underlying3 Try.zeroSeen hW e.i
  obtain ⟨a0, b0, had, hval⟩ : ∃ (a0 b0 : Int) (had : Bool), (Value.tuple #[(seenV s e.i).getD (.agg #[.int .i64 0, .int .i64 0]), .bool (seenV s e.i).isSome] = .tuple #[.agg #[.int .i64 a0, .int .i64 b0], .bool had]) ∧ (had = true ↔ ∃ p, s.find? (fun p => p.1 == e.i) = some p) ∧ (∀ p, s.find? (fun p => p.1 == e.i) = some p → a0 = p.2.1) := by
    cases hf : s.find? (fun p => p.1 == e.i) with
    | none => exact ⟨0, 0, false, by simp [seenV, hf], by simp, by simp⟩
    | some p => exact ⟨p.2.1, p.2.2, true, by simp [seenV, hf], by simp, by simp⟩
  rw [hval.1] at hlk
  have HH := Lib.hid hval.2
  clear hval
  have hM1 := hM.alloc (.cells #[.int .i64 e.m, .int .i64 e.k, .int .i64 e.i, .int .i64 e.h] 117)
  have hlk1 := hlk (w.alloc (.cells #[.int .i64 e.m, .int .i64 e.k, .int .i64 e.i, .int .i64 e.h] 117)).drew (hM1.keep rfl)
  have hlk2 := hlk ((w.alloc (.cells #[.int .i64 e.m, .int .i64 e.k, .int .i64 e.i, .int .i64 e.h] 117)).alloc (.cells #[.int .i64 0, .int .i64 0] 203)).drew ((hM1.alloc _).keep rfl)
  have HLK := Lib.hid hlk
  clear hlk
  go_enter Tryz.func103, Tryz.ntmps103
  go_wp2_with fail
  go_region
  all_goals
    have q : AddMem w ((w.alloc (.cells #[.int .i64 e.m, .int .i64 e.k, .int .i64 e.i, .int .i64 e.h] 117)).alloc (.cells #[.int .i64 a0, .int .i64 b0] 203)).drew g h b w.heap.size (w.heap.size + 1) s.length A cap (s.map (·.1)) m e a0 b0 :=
      ⟨((hB.alloc _).alloc _).heap rfl, ((hsl.alloc _).alloc _).heap rfl, (hM1.alloc _).keep rfl, ((Blk.new w _ _).alloc _).heap rfl, by
        have h1 := Blk.new (w.alloc (.cells #[.int .i64 e.m, .int .i64 e.k, .int .i64 e.i, .int .i64 e.h] 117)) 203 #[.int .i64 a0, .int .i64 b0]
        simp only [World.size_alloc] at h1
        exact h1.heap rfl, Nat.le_refl _, by omega⟩
    have hchg : Chg (g :: b :: h.toList) w ((w.alloc (.cells #[.int .i64 e.m, .int .i64 e.k, .int .i64 e.i, .int .i64 e.h] 117)).alloc (.cells #[.int .i64 a0, .int .i64 b0] 203)).drew := (((Chg.refl _ w).alloc _).alloc _).drew
    generalize ((w.alloc (.cells #[.int .i64 e.m, .int .i64 e.k, .int .i64 e.i, .int .i64 e.h] 117)).alloc (.cells #[.int .i64 a0, .int .i64 b0] 203)).drew = W1 at q hchg ⊢
    have hYX : w.heap.size ≤ w.heap.size + 1 := by omega
    generalize w.heap.size + 1 = Y at q hYX ⊢
    clear hlk1 hlk2 HLK hM hM1 hB hsl c0 c1 hgl
    have HQ := Lib.hid q
    have HC := Lib.hid hchg
    have HG := Lib.hid hget
    clear q hchg hget
    generalize hX : w.heap.size = X at HQ hYX ⊢
    have HX := Lib.hid hX
    clear hX
    cases had
    · have hp : s.find? (fun p => p.1 == e.i) = none := by
        cases hf : s.find? (fun p => p.1 == e.i) with
        | none => rfl
        | some p => exact absurd (HH.out.1.2 ⟨p, hf⟩) (by simp)
      have hnew := addS_new s e hp
      have hseen : seenV s e.i = none := by simp [seenV, hp]
      have HNEW := Lib.hid hnew
      have HP := Lib.hid hp
      clear hnew hp hseen
      obtain ⟨k0, k1, kf, k2, k3, k4, k5, k6, k7, k8⟩ := HQ.out.cells
      obtain ⟨n1, n2, n3, n4, n5, n6, n7, n8, n9, n10⟩ := HQ.out.ne
      go_wp2_with fail
      go_region_law (refine step_append_sl _ (by rfl) (.tmp 22) (.tmp 25) _ (by rfl) Tryz.underlying32 hi hz0 hz1 hz2 rfl (by omega) ((HQ.out.sI.alloc _).heap (by rfl)) (by simp [Act.eval]) W1.heap.size #[.int .i64 e.i] (e' := 3) (fr := (0, 0)) (heap_alloc_new W1 _) 1 1 (by simp [Act.eval]) (by rfl) (by simp [Value.oneCell']) (by unfold maxLen; omega) (by omega) ?_; intro v2 h2 w2 hs2 hc2 ho2; obtain ⟨A2, cap2, rfl, _, _⟩ := hs2.form; have hf2 : w2.frozen? ⟨g, 0, none⟩ = false := (hc2.frozen (p := ⟨g, 0, none⟩) (by simp; omega) n1).trans ((World.frozen?_alloc_past _ _ _ k8).trans kf); have hf3 : w2.cell? ⟨g, 0, none⟩ = some (.slice A s.length cap) := (hc2.cell (p := ⟨g, 0, none⟩) (by simp; omega) n1).trans ((World.cell?_alloc_past _ _ _ k8).trans k0))
      all_goals
        obtain ⟨_, q2⟩ := HQ.out.app hs2 hc2
        have hch2 : Chg (g :: b :: h.toList) w (w2.setCell ⟨g, 0, none⟩ (.slice A2 (s.length + 1) cap2)) := (((HC.out.alloc _).drew).trans hc2 (fun i hi => .inl (by simp at hi; simp [hi]))).set (p := ⟨g, 0, none⟩) (.inl (by simp)) _
        have hown2 : h2 = h ∨ ∃ k, h2 = some k ∧ w.heap.size ≤ k := by
          rcases ho2 with h3 | ⟨k, h3, h4⟩
          · exact .inl h3
          · have := HC.out.size
            simp at h4
            exact .inr ⟨k, h3, by omega⟩
        generalize w2.setCell ⟨g, 0, none⟩ (.slice A2 (s.length + 1) cap2) = W2 at q2 hch2 ⊢
        have HO := Lib.hid hown2
        have HC2 := Lib.hid hch2
        clear k0 k1 kf k2 k3 k4 k5 k6 k7 k8 n1 n2 n3 n4 n5 n6 n7 n8 n9 n10 hs2 hc2 ho2 hf2 hf3 HQ HC hown2 hch2
        obtain ⟨k0, k1, kf, k2, k3, k4, k5, k6, k7, k8⟩ := q2.cells
        have q4 := ((q2.setY e.h).1.setY e.h).2
        obtain ⟨W', hr, hfin, hcf⟩ := (q4.heap (W' := ((W2.setCell ⟨Y, 0, none⟩ (.int .i64 e.h)).setCell ⟨Y, 1, none⟩ (.int .i64 e.h)).drew) rfl).fin (s := s) (s' := addS s e) (by rw [HNEW.out]; simp) (by rw [HNEW.out]; simp) HG.out (by rw [HNEW.out]; simp [seenV, HP.out]) (fun x hx => by
          rw [HNEW.out]
          have : (e.i == x) = false := by rw [beq_eq_false_iff_ne]; exact fun h => hx h.symm
          simp [seenV, List.find?_append, this])
        have hcells := q4.cells
        have HFIN := Lib.hid hfin
        have HCF := Lib.hid hcf
        clear hfin hcf q2 q4
        go_wp2_with fail
        generalize hW3 : (W2.setCell ⟨Y, 0, none⟩ (.int .i64 e.h)).setCell ⟨Y, 1, none⟩ (.int .i64 e.h) = W3 at hr hcells HCF ⊢
        have HW3 := Lib.hid hW3
        clear hW3 k0 k1 kf k2 k3 k4 k5 k6 k7 k8
        obtain ⟨k0, k1, kf, k2, k3, k4, k5, k6, k7, k8⟩ := hcells
        go_region
        all_goals
          go_end0
          refine ⟨rfl, h2, HFIN.out, ?_, HO.out⟩
          have h1 := (HC2.out.set (p := ⟨Y, 0, none⟩) (.inr (show w.heap.size ≤ Y by rw [HX.out]; exact hYX)) (.int .i64 e.h)).set (p := ⟨Y, 1, none⟩) (.inr (show w.heap.size ≤ Y by rw [HX.out]; exact hYX)) (.int .i64 e.h)
          rw [HW3.out] at h1
          exact h1.drew.trans HCF.out (fun i hi => .inl (by simp at hi; simp [hi]))
    · obtain ⟨p, hp⟩ := HH.out.1.1 rfl
      have ha0 := HH.out.2 p hp
      subst ha0
      obtain ⟨s1, s2, s3⟩ := addS_found s e p hp
      have hlen : s.length = (addS s e).length := by
        have := congrArg List.length s1
        simpa using this.symm
      obtain ⟨k0, k1, kf, k2, k3, k4, k5, k6, k7, k8⟩ := HQ.out.cells
      have q2 := (HQ.out.setY e.h).2
      obtain ⟨W', hr, hfin, hcf⟩ := (q2.heap (W' := (W1.setCell ⟨Y, 1, none⟩ (.int .i64 e.h)).drew) rfl).fin (s := s) (s' := addS s e) s1.symm hlen HG.out (by simp [seenV, s2]) (fun x hx => by simp [seenV, s3 x hx])
      have hcells := q2.cells
      have HFIN := Lib.hid hfin
      have HCF := Lib.hid hcf
      clear hfin hcf q2 s1 s2 s3 hp hlen
      go_wp2_with fail
      generalize hW2 : W1.setCell ⟨Y, 1, none⟩ (.int .i64 e.h) = W2 at hr hcells HCF ⊢
      have HW2 := Lib.hid hW2
      clear hW2 k0 k1 kf k2 k3 k4 k5 k6 k7 k8
      obtain ⟨k0, k1, kf, k2, k3, k4, k5, k6, k7, k8⟩ := hcells
      go_region
      all_goals
        go_end0
        refine ⟨rfl, h, HFIN.out, ?_, .inl rfl⟩
        have h1 := HC.out.set (p := ⟨Y, 1, none⟩) (.inr (show w.heap.size ≤ Y by rw [HX.out]; exact hYX)) (.int .i64 e.h)
        rw [HW2.out] at h1
        exact h1.drew.trans HCF.out (fun i hi => .inl (by simp at hi; simp [hi]))

end Go.Proofs.YtmbibhphpjmboaaGreatDoor

namespace Go.Proofs.YtmbibhphpjmboaaGreatDoor
open Go.RowKit

def upd {α : Type} (f : Nat → α) (i : Nat) (v : α) : Nat → α := fun j => if j = i then v else f j

/-- What told's loop keeps: block C is the result, its three lists in memory of the call's own, apart from one another. -/
structure ToldMem (w wr : World) (C : Nat) (vs : Nat → Value) (hs : Nat → Option Nat) (ls : Nat → List Int) : Prop where
  bC : Blk wr C 82 #[vs 0, vs 1, vs 2, .int .i64 0, .bool false]
  sl : ∀ i, i < 3 → Sl wr 3 1 (vs i) (hs i) (ls i).length (intsV (ls i))
  below : Below w.heap.size w wr
  own : ∀ i k, hs i = some k → w.heap.size ≤ k
  apart : ∀ i j k, i < 3 → j < 3 → i ≠ j → hs i = some k → hs j ≠ some k
  hC : w.heap.size ≤ C

theorem ToldMem.ne {w wr : World} {C : Nat} {vs : Nat → Value} {hs : Nat → Option Nat} {ls : Nat → List Int} (q : ToldMem w wr C vs hs ls) (i : Nat) (hi : i < 3) : hs i ≠ some C :=
  fun hh => (q.sl i hi).ne_blk q.bC (by decide) C hh rfl

theorem ToldMem.app {w wr w2 : World} {C : Nat} {vs : Nat → Value} {hs : Nat → Option Nat} {ls : Nat → List Int} (q : ToldMem w wr C vs hs ls) (i : Nat) (hi : i < 3) {o : Obj} {x : Int} {v2 : Value} {h2 : Option Nat}
    (hs2 : Sl w2 3 1 v2 h2 ((ls i).length + 1) (intsV (ls i) ++ (#[.int .i64 x] : Array Value).toList)) (hc2 : Chg (hs i).toList (wr.alloc o) w2) (ho2 : h2 = hs i ∨ ∃ g, h2 = some g ∧ (wr.alloc o).heap.size ≤ g) :
    ToldMem w (w2.setCell ⟨C, i, none⟩ v2) C (upd vs i v2) (upd hs i h2) (upd ls i (ls i ++ [x])) := by
  have hsz : (wr.alloc o).heap.size = wr.heap.size + 1 := by simp
  have hCi : C ∉ (hs i).toList := fun hm => q.ne i hi (by simpa using hm)
  have hB2 : Blk w2 C _ _ := (q.bC.alloc o).chg hc2 hCi
  have hne2 : h2 ≠ some C := fun hh => hs2.ne_blk hB2 (by decide) C hh rfl
  have hbel : Below w.heap.size w w2 := by
    have h1 := (q.below.alloc q.below.size o)
    exact h1.trans (hc2.below (by rw [hsz]; have := q.below.size; omega) (fun k hk => q.own i k (by simpa using hk)))
  refine ⟨?_, fun j hj => ?_, hbel.setCell q.hC _, fun j k hk => ?_, fun j l k hj hl3 hne hk => ?_, q.hC⟩
  · have h1 := hB2.set i v2
    have h3 : (#[vs 0, vs 1, vs 2, .int .i64 0, .bool false] : Array Value).setIfInBounds i v2 = #[upd vs i v2 0, upd vs i v2 1, upd vs i v2 2, .int .i64 0, .bool false] := by
      match i, hi with
      | 0, _ => rfl
      | 1, _ => rfl
      | 2, _ => rfl
    rw [h3] at h1
    exact h1
  · by_cases e : j = i
    · subst e
      have h1 := hs2.far (p := ⟨C, j, none⟩) hne2 v2
      simp only [upd, if_true]
      rw [intsV_append, List.length_append]
      exact h1
    · simp only [upd, if_neg e]
      refine Sl.far ?_ (q.ne j hj) v2
      refine ((q.sl j hj).alloc o).chg hc2 fun k hk hm => ?_
      exact q.apart j i k hj hi e hk (by simpa using hm)
  · unfold upd at hk
    split at hk
    · rcases ho2 with h3 | ⟨g, h3, h4⟩
      · rw [h3] at hk
        exact q.own i k hk
      · rw [h3] at hk
        injection hk with hk
        have := q.below.size
        omega
    · exact q.own j k hk
  · unfold upd at hk ⊢
    by_cases e1 : j = i
    · subst e1
      rw [if_neg (fun e => hne e.symm)]
      rw [if_pos rfl] at hk
      intro hl
      rcases ho2 with h3 | ⟨g, h3, h4⟩
      · rw [h3] at hk
        exact q.apart j l k hj hl3 hne hk hl
      · rw [h3] at hk
        injection hk with hk
        have := (q.sl l hl3).lt k hl
        omega
    · rw [if_neg e1] at hk
      by_cases e2 : l = i
      · subst e2
        rw [if_pos rfl]
        intro hl
        rcases ho2 with h3 | ⟨g, h3, h4⟩
        · rw [h3] at hl
          exact q.apart j l k hj hl3 hne hk hl
        · rw [h3] at hl
          injection hl with hl
          have := (q.sl j hj).lt k hk
          omega
      · rw [if_neg e2]
        exact q.apart j l k hj hl3 hne hk

theorem seenV_at (s : Seen) (hnd : (s.map (·.1)).Nodup) (k : Nat) (hk : k < s.length) : seenV s s[k].1 = some (.agg #[.int .i64 s[k].2.1, .int .i64 s[k].2.2]) := by
  have : s.find? (fun p => p.1 == s[k].1) = some s[k] := by
    induction s generalizing k with
    | nil => simp at hk
    | cons p r ih =>
      cases k with
      | zero => simp
      | succ k =>
        have hk' : k < r.length := by simpa using hk
        simp only [List.map_cons, List.nodup_cons] at hnd
        have hne : (p.1 == r[k].1) = false := by
          rw [beq_eq_false_iff_ne]
          intro h
          exact hnd.1 (by rw [h]; exact List.mem_map_of_mem (List.getElem_mem hk'))
        simp only [List.getElem_cons_succ, List.find?_cons, hne]
        exact ih hnd.2 k hk'
  simp [seenV, this]

def toldF (s : Seen) (k : Nat) : Told := (s.take k).foldl toldOne ⟨[], [], []⟩
theorem toldF_succ (s : Seen) (k : Nat) (hk : k < s.length) : toldF s (k + 1) = toldOne (toldF s k) s[k] := by
  unfold toldF
  rw [List.take_succ_eq_append_getElem hk, List.foldl_append]
  rfl
theorem toldF_all (s : Seen) : toldF s s.length = toldS s := by simp [toldF, toldS]

/-- The three lists, by their places. -/
def lsOf (t : Told) : Nat → List Int := fun i => if i = 0 then t.made else if i = 1 then t.turned else if i = 2 then t.gone else []

/-- A value of type Changes whose lists are in memory of the call's own. -/
def ChO (w : World) (B : Nat) (c : Array Value) (t : Told) (state : Int) (more : Bool) : Prop :=
  ∃ (vs : Nat → Value) (hs : Nat → Option Nat), c = #[vs 0, vs 1, vs 2, .int .i64 state, .bool more] ∧ (∀ i, i < 3 → Sl w 3 1 (vs i) (hs i) (lsOf t i).length (intsV (lsOf t i))) ∧ ∀ i k, hs i = some k → B ≤ k

theorem toldOne_len (t : Told) (p : Int × Int × Int) (i : Nat) : (lsOf (toldOne t p) i).length ≤ (lsOf t i).length + 1 := by
  unfold toldOne
  split
  · omega
  · split
    · unfold lsOf
      by_cases h0 : i = 0
      · simp [h0]
      · simp [h0]
    · split
      · unfold lsOf
        by_cases h0 : i = 0
        · simp [h0]
        · by_cases h1 : i = 1
          · simp [h1]
          · by_cases h2 : i = 2 <;> simp [h0, h1, h2]
      · unfold lsOf
        by_cases h0 : i = 0
        · simp [h0]
        · by_cases h1 : i = 1 <;> simp [h0, h1]
theorem toldF_len (s : Seen) (k : Nat) (hk : k ≤ s.length) : ∀ i, (lsOf (toldF s k) i).length ≤ k := by
  induction k with
  | zero =>
    intro i
    simp [toldF, lsOf]
  | succ k ih =>
    intro i
    have h1 := ih (by omega) i
    have h2 := toldOne_len (toldF s k) s[k] i
    rw [toldF_succ s k (by omega)]
    omega

theorem lsOf_made (t : Told) (id z : Int) (hz : ¬ z = 3) : lsOf (toldOne t (id, 1, z)) = upd (lsOf t) 0 (lsOf t 0 ++ [id]) := by
  funext i
  simp only [toldOne, hz, lsOf, upd]
  by_cases h0 : i = 0
  · simp [h0]
  · by_cases h1 : i = 1
    · simp [h1]
    · by_cases h2 : i = 2 <;> simp [h0, h1, h2]
theorem lsOf_gone (t : Told) (id a : Int) (ha : ¬ a = 1) : lsOf (toldOne t (id, a, 3)) = upd (lsOf t) 2 (lsOf t 2 ++ [id]) := by
  funext i
  simp only [toldOne, ha, lsOf, upd]
  by_cases h0 : i = 0
  · simp [h0]
  · by_cases h1 : i = 1
    · simp [h1]
    · by_cases h2 : i = 2 <;> simp [h0, h1, h2]
theorem lsOf_turned (t : Told) (id a z : Int) (ha : ¬ a = 1) (hz : ¬ z = 3) : lsOf (toldOne t (id, a, z)) = upd (lsOf t) 1 (lsOf t 1 ++ [id]) := by
  funext i
  simp only [toldOne, ha, hz, lsOf, upd]
  by_cases h0 : i = 0
  · simp [h0]
  · by_cases h1 : i = 1
    · simp [h1]
    · by_cases h2 : i = 2 <;> simp [h0, h1, h2]

set_option maxRecDepth 100000 in
set_option maxHeartbeats 2000000 in
theorem told_any (w : World) (g : Nat) (h : Option Nat) (b : Nat) (s : Seen) (hs : SeenAt w g h b s) (hnd : (s.map (·.1)).Nodup) (hn : s.length ≤ 1099511627776) :
    Calls Tryz.prog 104 #[.pointer (some ⟨g, 0, none⟩)] w fun e w' => ∃ c, e = .returned (.agg c) ∧ ChO w' w.heap.size c (toldS s) 0 false ∧ Below w.heap.size w w' := by
  obtain ⟨i0, hi, hz0, hz1, hz2⟩ := info_parts Try.infoInt
  obtain ⟨v, m, hB, hsl, hM, hget⟩ := hs
  obtain ⟨A, cap, rfl, _, _⟩ := hsl.form
  have hgl := hB.lt
  have c0 : w.cell? ⟨g, 0, none⟩ = some (.slice A s.length cap) := hB.cell 0
  have hstart : ToldMem w (w.alloc (.cells #[.slice none 0 0, .slice none 0 0, .slice none 0 0, .int .i64 0, .bool false] 82)) w.heap.size (fun _ => .slice none 0 0) (fun _ => none) (lsOf (toldF s 0)) :=
    ⟨Blk.new w _ _, (fun i _ => by
      have : lsOf (toldF s 0) i = [] := by simp [lsOf, toldF]
      rw [this]
      exact Sl.nil _ _ _), (Below.refl _ _).alloc (Nat.le_refl _) _, (fun _ _ h => by cases h), (fun _ _ _ _ _ _ h => by cases h), Nat.le_refl _⟩
  have HS := Lib.hid hstart
  have HB := Lib.hid hB
  have HSL := Lib.hid hsl
  have HM := Lib.hid hM
  have HG := Lib.hid hget
  clear hstart hB hsl hM hget
  obtain ⟨L, hL⟩ : ∃ L, s.length = L := ⟨_, rfl⟩
  rw [hL] at c0 hn
  have HL := Lib.hid hL
  clear hL
  go_enter Tryz.func104, Tryz.ntmps104
  go_wp2_with fail
  generalize hC : w.heap.size = C at HS ⊢
  have HC := Lib.hid hC
  clear hC
  go_loopw [11] (fun i wr => ∃ (k : Nat) (vs : Nat → Value) (hs : Nat → Option Nat), k ≤ L ∧ i = .int .i64 k ∧ Hid (ToldMem w wr C vs hs (lsOf (toldF s k)))) (fun i _ => L - (intOf i).toNat)
  case atStart => exact ⟨0, _, _, Nat.zero_le _, rfl, HS⟩
  case round =>
    obtain ⟨k, vs, hs, hk, rfl, HU⟩ := hrel
    by_cases hlt : k < L
    · have hks : k < s.length := by rw [HL.out]; exact hlt
      have hbel := HU.out.below
      have hwsz := hbel.size
      obtain ⟨ba, off, cap2, hh, hva, _, _, hbl, hat⟩ := HSL.out.at_ (by omega)
      injection hva with hva1 _ hva3
      subst hva1
      subst hva3
      have d0 : wr.cell? ⟨ba, off + k, none⟩ = some (.int .i64 s[k].1) := by
        rw [hbel.cell (p := ⟨ba, off + k, none⟩) hbl, (hat k (by omega)).1]
        simp [intsV, hks]
      have d1 : wr.cell? ⟨g, 1, none⟩ = some (.map (some b)) := (hbel.cell (p := ⟨g, 1, none⟩) hgl).trans (HB.out.cell 1)
      clear hat
      have hlk := run_lookup_int1 (P := Tryz.prog) Tryz.underlying158 Tryz.underlying3 Try.zeroSeen (HM.out.keep (hbel.block b HM.out.lt)) s[k].1
      rw [HG.out, seenV_at s hnd k hks] at hlk
      simp only [Option.getD_some] at hlk
      have hsucc := toldF_succ s k hks
      have HSUCC := Lib.hid hsucc
      have hl0 := toldF_len s k (by omega)
      have HL0 := Lib.hid hl0
      clear hsucc hl0 hbel
      generalize s[k] = p at d0 hlk HSUCC
      obtain ⟨id, a, z⟩ := p
      simp only at d0 hlk HSUCC
      have e0 : wr.cell? ⟨C, 0, none⟩ = some (vs 0) := HU.out.bC.cell 0
      have e1 : wr.cell? ⟨C, 1, none⟩ = some (vs 1) := HU.out.bC.cell 1
      have e2 : wr.cell? ⟨C, 2, none⟩ = some (vs 2) := HU.out.bC.cell 2
      have hCl : C < wr.heap.size := HU.out.bC.lt
      by_cases ha : a = 1
      · subst ha
        by_cases hz : z = 3
        · subst hz
          have hlz : lsOf (toldF s (k + 1)) = lsOf (toldF s k) := by
            rw [HSUCC.out]
            simp [toldOne]
          have HQ : Hid (ToldMem w (wr.alloc (.cells #[.int .i64 1, .int .i64 3] 203)) C vs hs (lsOf (toldF s (k + 1)))) := by
            rw [hlz]
            exact ⟨HU.out.bC.alloc _, fun i hi => (HU.out.sl i hi).alloc _, HU.out.below.alloc HU.out.below.size _, HU.out.own, HU.out.apart, HU.out.hC⟩
          clear hlz
          go_wp2
          refine ⟨?_, by simp [intOf]; omega⟩
          first | exact ⟨k + 1, _, _, by omega, by go_num, HQ⟩ | ((repeat apply Exists.intro); exact ⟨⟨k + 1, _, _, by omega, by go_num, HQ⟩, rfl⟩)
        · have hz1' : (z == 3) = false := by simpa using hz
          go_wp2_with (at_builtin; refine wpList_append_slX rfl _ _ 32 rfl Tryz.underlying32 hi hz0 hz1 hz2 rfl (by decide) ((HU.out.sl 0 (by decide)).alloc _) rfl (wr.heap.size + 1) (by simp) 1 1 rfl rfl ?_ ?_ ?_ ?_)
          · rfl
          · have := HL0.out 0
            unfold maxLen
            omega
          · have := HL0.out 0
            omega
          · intro v2 h2 w2 hs2 hc2 ho2
            have ho2' : h2 = hs 0 ∨ ∃ g, h2 = some g ∧ (wr.alloc (.cells #[.int .i64 1, .int .i64 z] 203)).heap.size ≤ g := by simpa using ho2
            obtain ⟨A2, cap3, rfl, _, _⟩ := hs2.form
            have hCi : C ∉ (hs 0).toList := fun hm => HU.out.ne 0 (by decide) (by simpa using hm)
            have hB2 := (HU.out.bC.alloc (.cells #[.int .i64 1, .int .i64 z] 203)).chg hc2 hCi
            have f0 : w2.cell? ⟨C, 0, none⟩ = some (vs 0) := hB2.cell 0
            have f1 : w2.frozen? ⟨C, 0, none⟩ = false := hB2.frozen 0
            have q := HU.out.app 0 (by decide) hs2 hc2 ho2'
            have hlz : lsOf (toldF s (k + 1)) = upd (lsOf (toldF s k)) 0 (lsOf (toldF s k) 0 ++ [id]) := by
              rw [HSUCC.out]
              exact lsOf_made _ _ _ hz
            rw [← hlz] at q
            have HQ := Lib.hid q
            clear q hB2 hs2 hc2 ho2 ho2' hlz
            go_wp2
            refine ⟨?_, by simp [intOf]; omega⟩
            first | exact ⟨k + 1, _, _, by omega, by go_num, HQ⟩ | ((repeat apply Exists.intro); exact ⟨⟨k + 1, _, _, by omega, by go_num, HQ⟩, rfl⟩)
      · have ha1 : (a == 1) = false := by simpa using ha
        by_cases hz : z = 3
        · subst hz
          go_wp2_with (at_builtin; refine wpList_append_slX rfl _ _ 32 rfl Tryz.underlying32 hi hz0 hz1 hz2 rfl (by decide) ((HU.out.sl 2 (by decide)).alloc _) rfl (wr.heap.size + 1) (by simp) 1 1 rfl rfl ?_ ?_ ?_ ?_)
          · rfl
          · have := HL0.out 2
            unfold maxLen
            omega
          · have := HL0.out 2
            omega
          · intro v2 h2 w2 hs2 hc2 ho2
            have ho2' : h2 = hs 2 ∨ ∃ g, h2 = some g ∧ (wr.alloc (.cells #[.int .i64 a, .int .i64 3] 203)).heap.size ≤ g := by simpa using ho2
            obtain ⟨A2, cap3, rfl, _, _⟩ := hs2.form
            have hCi : C ∉ (hs 2).toList := fun hm => HU.out.ne 2 (by decide) (by simpa using hm)
            have hB2 := (HU.out.bC.alloc (.cells #[.int .i64 a, .int .i64 3] 203)).chg hc2 hCi
            have f0 : w2.cell? ⟨C, 2, none⟩ = some (vs 2) := hB2.cell 2
            have f1 : w2.frozen? ⟨C, 2, none⟩ = false := hB2.frozen 2
            have q := HU.out.app 2 (by decide) hs2 hc2 ho2'
            have hlz : lsOf (toldF s (k + 1)) = upd (lsOf (toldF s k)) 2 (lsOf (toldF s k) 2 ++ [id]) := by
              rw [HSUCC.out]
              exact lsOf_gone _ _ _ ha
            rw [← hlz] at q
            have HQ := Lib.hid q
            clear q hB2 hs2 hc2 ho2 ho2' hlz
            go_wp2
            refine ⟨?_, by simp [intOf]; omega⟩
            first | exact ⟨k + 1, _, _, by omega, by go_num, HQ⟩ | ((repeat apply Exists.intro); exact ⟨⟨k + 1, _, _, by omega, by go_num, HQ⟩, rfl⟩)
        · have hz1' : (z == 3) = false := by simpa using hz
          go_wp2_with (at_builtin; refine wpList_append_slX rfl _ _ 32 rfl Tryz.underlying32 hi hz0 hz1 hz2 rfl (by decide) ((HU.out.sl 1 (by decide)).alloc _) rfl (wr.heap.size + 1) (by simp) 1 1 rfl rfl ?_ ?_ ?_ ?_)
          · rfl
          · have := HL0.out 1
            unfold maxLen
            omega
          · have := HL0.out 1
            omega
          · intro v2 h2 w2 hs2 hc2 ho2
            have ho2' : h2 = hs 1 ∨ ∃ g, h2 = some g ∧ (wr.alloc (.cells #[.int .i64 a, .int .i64 z] 203)).heap.size ≤ g := by simpa using ho2
            obtain ⟨A2, cap3, rfl, _, _⟩ := hs2.form
            have hCi : C ∉ (hs 1).toList := fun hm => HU.out.ne 1 (by decide) (by simpa using hm)
            have hB2 := (HU.out.bC.alloc (.cells #[.int .i64 a, .int .i64 z] 203)).chg hc2 hCi
            have f0 : w2.cell? ⟨C, 1, none⟩ = some (vs 1) := hB2.cell 1
            have f1 : w2.frozen? ⟨C, 1, none⟩ = false := hB2.frozen 1
            have q := HU.out.app 1 (by decide) hs2 hc2 ho2'
            have hlz : lsOf (toldF s (k + 1)) = upd (lsOf (toldF s k)) 1 (lsOf (toldF s k) 1 ++ [id]) := by
              rw [HSUCC.out]
              exact lsOf_turned _ _ _ _ ha hz
            rw [← hlz] at q
            have HQ := Lib.hid q
            clear q hB2 hs2 hc2 ho2 ho2' hlz
            go_wp2
            refine ⟨?_, by simp [intOf]; omega⟩
            first | exact ⟨k + 1, _, _, by omega, by go_num, HQ⟩ | ((repeat apply Exists.intro); exact ⟨⟨k + 1, _, _, by omega, by go_num, HQ⟩, rfl⟩)
    · have hkL : k = L := by omega
      subst hkL
      obtain ⟨A0, p0, hv0, _, _⟩ := (HU.out.sl 0 (by decide)).form
      obtain ⟨A1, p1, hv1, _, _⟩ := (HU.out.sl 1 (by decide)).form
      obtain ⟨A2, p2, hv2, _, _⟩ := (HU.out.sl 2 (by decide)).form
      have e0 : wr.cell? ⟨C, 0, none⟩ = some (vs 0) := HU.out.bC.cell 0
      have e1 : wr.cell? ⟨C, 1, none⟩ = some (vs 1) := HU.out.bC.cell 1
      have e2 : wr.cell? ⟨C, 2, none⟩ = some (vs 2) := HU.out.bC.cell 2
      have e3 : wr.cell? ⟨C, 3, none⟩ = some (.int .i64 0) := HU.out.bC.cell 3
      have e4 : wr.cell? ⟨C, 4, none⟩ = some (.bool false) := HU.out.bC.cell 4
      have f0 : wr.frozen? ⟨C, 0, none⟩ = false := HU.out.bC.frozen 0
      have f1 : wr.frozen? ⟨C, 1, none⟩ = false := HU.out.bC.frozen 1
      have f2 : wr.frozen? ⟨C, 2, none⟩ = false := HU.out.bC.frozen 2
      have f3 : wr.frozen? ⟨C, 3, none⟩ = false := HU.out.bC.frozen 3
      have f4 : wr.frozen? ⟨C, 4, none⟩ = false := HU.out.bC.frozen 4
      have hfin : ∀ u0 u1 u2 u3 u4, ChO (((((wr.setCell ⟨C, 0, none⟩ u0).setCell ⟨C, 1, none⟩ u1).setCell ⟨C, 2, none⟩ u2).setCell ⟨C, 3, none⟩ u3).setCell ⟨C, 4, none⟩ u4) w.heap.size #[vs 0, vs 1, vs 2, .int .i64 0, .bool false] (toldS s) 0 false ∧
          Below w.heap.size w (((((wr.setCell ⟨C, 0, none⟩ u0).setCell ⟨C, 1, none⟩ u1).setCell ⟨C, 2, none⟩ u2).setCell ⟨C, 3, none⟩ u3).setCell ⟨C, 4, none⟩ u4) ∧ Blk (((((wr.setCell ⟨C, 0, none⟩ u0).setCell ⟨C, 1, none⟩ u1).setCell ⟨C, 2, none⟩ u2).setCell ⟨C, 3, none⟩ u3).setCell ⟨C, 4, none⟩ u4) C 82 #[u0, u1, u2, u3, u4] := fun u0 u1 u2 u3 u4 => by
        refine ⟨⟨vs, hs, rfl, fun i hi => ?_, HU.out.own⟩, ((((HU.out.below.setCell HU.out.hC _).setCell HU.out.hC _).setCell HU.out.hC _).setCell HU.out.hC _).setCell HU.out.hC _, ((((HU.out.bC.set 0 u0).set 1 u1).set 2 u2).set 3 u3).set 4 u4⟩
        have h0 := HU.out.sl i hi
        have hne := HU.out.ne i hi
        rw [← HL.out, toldF_all] at h0
        exact ((((h0.far hne _).far hne _).far hne _).far hne _).far hne _
      rw [hv0, hv1, hv2] at hfin
      rw [hv0] at e0
      rw [hv1] at e1
      rw [hv2] at e2
      have HFIN := Lib.hid hfin
      clear hfin hv0 hv1 hv2
      go_wp2
      have hF := HFIN.out (.slice A0 (lsOf (toldF s k) 0).length p0) (.slice A1 (lsOf (toldF s k) 1).length p1) (.slice A2 (lsOf (toldF s k) 2).length p2) (.int .i64 0) (.bool false)
      generalize (((((wr.setCell ⟨C, 0, none⟩ (.slice A0 (lsOf (toldF s k) 0).length p0)).setCell ⟨C, 1, none⟩ (.slice A1 (lsOf (toldF s k) 1).length p1)).setCell ⟨C, 2, none⟩ (.slice A2 (lsOf (toldF s k) 2).length p2)).setCell ⟨C, 3, none⟩ (.int .i64 0)).setCell ⟨C, 4, none⟩ (.bool false)) = WF at hF ⊢
      obtain ⟨q1, q2, q3⟩ := hF
      have r0 : WF.cell? ⟨C, 0, none⟩ = some (.slice A0 (lsOf (toldF s k) 0).length p0) := q3.cell 0
      have r1 : WF.cell? ⟨C, 1, none⟩ = some (.slice A1 (lsOf (toldF s k) 1).length p1) := q3.cell 1
      have r2 : WF.cell? ⟨C, 2, none⟩ = some (.slice A2 (lsOf (toldF s k) 2).length p2) := q3.cell 2
      have r3 : WF.cell? ⟨C, 3, none⟩ = some (.int .i64 0) := q3.cell 3
      have r4 : WF.cell? ⟨C, 4, none⟩ = some (.bool false) := q3.cell 4
      refine bodyPost_ret (v := .agg #[.slice A0 (lsOf (toldF s k) 0).length p0, .slice A1 (lsOf (toldF s k) 1).length p1, .slice A2 (lsOf (toldF s k) 2).length p2, .int .i64 0, .bool false]) ?_ rfl ⟨_, rfl, q1, q2⟩
      simp [results, Tryz.results104, go_sem, r0, r1, r2, r3, r4]

end Go.Proofs.YtmbibhphpjmboaaGreatDoor

namespace Go.Proofs.YtmbibhphpjmboaaGreatDoor
open Go.RowKit

def seenOf (tk : List E4) (j : Nat) : Seen := (tk.take j).foldl addS []
theorem seenOf_succ (tk : List E4) (j : Nat) (hj : j < tk.length) : seenOf tk (j + 1) = addS (seenOf tk j) tk[j] := by
  unfold seenOf
  rw [List.take_succ_eq_append_getElem hj, List.foldl_append]
  rfl
theorem addS_length (s : Seen) (e : E4) : (addS s e).length ≤ s.length + 1 := by
  induction s with
  | nil => simp [addS]
  | cons p r ih =>
    unfold addS
    split
    · simp
    · simp only [List.length_cons]
      omega
theorem seenOf_length (tk : List E4) (j : Nat) (hj : j ≤ tk.length) : (seenOf tk j).length ≤ j := by
  induction j with
  | zero => simp [seenOf]
  | succ j ih =>
    rw [seenOf_succ tk j (by omega)]
    have := addS_length (seenOf tk j) (tk[j]'(by omega))
    have := ih (by omega)
    omega
theorem addS_ids (s : Seen) (e : E4) : (addS s e).map (·.1) = s.map (·.1) ∧ e.i ∈ s.map (·.1) ∨ (addS s e).map (·.1) = s.map (·.1) ++ [e.i] ∧ e.i ∉ s.map (·.1) := by
  cases hf : s.find? (fun p => p.1 == e.i) with
  | none =>
    refine .inr ⟨by rw [addS_new s e hf]; simp, fun hm => ?_⟩
    obtain ⟨p, hp, he⟩ := List.mem_map.1 hm
    have := List.find?_eq_none.1 hf p hp
    simp [he] at this
  | some p =>
    refine .inl ⟨(addS_found s e p hf).1, ?_⟩
    have h1 := List.find?_some hf
    have h2 := List.mem_of_find?_eq_some hf
    simp at h1
    exact List.mem_map.2 ⟨p, h2, h1⟩
theorem seenOf_nodup (tk : List E4) (j : Nat) (hj : j ≤ tk.length) : ((seenOf tk j).map (·.1)).Nodup := by
  induction j with
  | zero => simp [seenOf]
  | succ j ih =>
    rw [seenOf_succ tk j (by omega)]
    have h1 := ih (by omega)
    rcases addS_ids (seenOf tk j) (tk[j]'(by omega)) with ⟨h2, _⟩ | ⟨h2, h3⟩
    · rw [h2]
      exact h1
    · rw [h2, List.nodup_append]
      refine ⟨h1, by simp, fun a ha b hb => ?_⟩
      simp at hb
      subst hb
      rintro rfl
      exact h3 ha

theorem bthen' {a w w' : World} (hb : Below a.heap.size a w) (h : Below w.heap.size w w') : Below a.heap.size a w' := hb.trans (h.mono hb.size)

/-- Memory in Since's second loop: k are told, j are taken in. -/
structure SR (w wr : World) (R O G b : Nat) (hs th : Option Nat) (tv : Value) (tk : List E4) (clock : Int) (k j : Nat) (ov : Nat → Value) (oh : Nat → Option Nat) : Prop where
  bR : Blk wr R 82 #[.slice none 0 0, .slice none 0 0, .slice none 0 0, .int .i64 0, .bool false]
  bO : Blk wr O 82 #[ov 0, ov 1, ov 2, .int .i64 clock, .bool false]
  sO : ∀ i, i < 3 → Sl wr 3 1 (ov i) (oh i) (lsOf (toldS (seenOf tk k)) i).length (intsV (lsOf (toldS (seenOf tk k)) i))
  sT : Sl wr 117 4 tv th tk.length (flatE tk)
  sn : SeenAt wr G hs b (seenOf tk j)
  below : Below w.heap.size w wr
  oR : w.heap.size ≤ R
  oO : w.heap.size ≤ O
  oG : w.heap.size ≤ G
  ob : w.heap.size ≤ b
  ohs : ∀ x, hs = some x → w.heap.size ≤ x
  oth : ∀ x, th = some x → w.heap.size ≤ x
  ooh : ∀ i x, i < 3 → oh i = some x → w.heap.size ≤ x ∧ hs ≠ some x
  ne : R ≠ O

section
variable {w wr w' : World} {R O G b : Nat} {hs th : Option Nat} {tv : Value} {tk : List E4} {clock : Int} {k j : Nat} {ov : Nat → Value} {oh : Nat → Option Nat}

/-- What lists.add may turn is none of the rest. -/
theorem SR.apart (q : SR w wr R O G b hs th tv tk clock k j ov oh) : R ∉ G :: b :: hs.toList ∧ O ∉ G :: b :: hs.toList ∧ (∀ x, th = some x → x ∉ G :: b :: hs.toList) ∧ ∀ i x, i < 3 → oh i = some x → x ∉ G :: b :: hs.toList := by
  obtain ⟨v, m, hB, hsl, hM, _⟩ := q.sn
  have key : ∀ {x : Nat} {t : TypeId} {cs : Array Value}, Blk wr x t cs → t ≠ 160 → hs ≠ some x → x ∉ G :: b :: hs.toList := by
    intro x t cs hx ht hne hm
    simp only [List.mem_cons, Option.mem_toList] at hm
    rcases hm with h | h | h
    · exact hx.ne hB ht h
    · exact hM.ne_blk hx h.symm
    · exact hne h
  refine ⟨key q.bR (by decide) (fun h => hsl.ne_blk q.bR (by decide) R h rfl), key q.bO (by decide) (fun h => hsl.ne_blk q.bO (by decide) O h rfl), fun x hx => ?_, fun i x hi hx => ?_⟩
  · rcases q.sT.2 with ⟨h0, _⟩ | ⟨b', off, cap, cur, hh, _, hBT, _⟩
    · rw [hx] at h0
      cases h0
    · rw [hx] at hh
      obtain rfl := Option.some.inj hh
      exact key hBT (by decide) (fun h => hsl.ne_blk hBT (by decide) x h rfl)
  · rcases (q.sO i hi).2 with ⟨h0, _⟩ | ⟨b', off, cap, cur, hh, _, hBT, _⟩
    · rw [hx] at h0
      cases h0
    · rw [hx] at hh
      obtain rfl := Option.some.inj hh
      exact key hBT (by decide) (q.ooh i x hi hx).2

/-- Behind one add. -/
theorem SR.add {hs' : Option Nat} (q : SR w wr R O G b hs th tv tk clock k j ov oh) (hj : j < tk.length) (hsn : SeenAt w' G hs' b (addS (seenOf tk j) tk[j])) (hc : Chg (G :: b :: hs.toList) wr w')
    (ho : hs' = hs ∨ ∃ x, hs' = some x ∧ wr.heap.size ≤ x) : SR w w' R O G b hs' th tv tk clock k (j + 1) ov oh := by
  obtain ⟨a1, a2, a3, a4⟩ := q.apart
  rw [← seenOf_succ tk j hj] at hsn
  refine ⟨q.bR.chg hc a1, q.bO.chg hc a2, fun i hi => (q.sO i hi).chg hc (a4 i · hi), q.sT.chg hc a3, hsn, ?_, q.oR, q.oO, q.oG, q.ob, ?_, q.oth, ?_, q.ne⟩
  · refine q.below.trans (hc.below q.below.size fun x hx => ?_)
    simp only [List.mem_cons, Option.mem_toList] at hx
    rcases hx with rfl | rfl | h
    · exact q.oG
    · exact q.ob
    · exact q.ohs x h
  · intro x hx
    rcases ho with rfl | ⟨y, rfl, hy⟩
    · exact q.ohs x hx
    · injection hx with hx
      have := q.below.size
      omega
  · intro i x hi hx
    refine ⟨(q.ooh i x hi hx).1, fun hh => ?_⟩
    rcases ho with rfl | ⟨y, rfl, hy⟩
    · exact (q.ooh i x hi hx).2 hh
    · injection hh with hh
      have := (q.sO i hi).lt x hx
      omega
/-- Behind what turns nothing. -/
theorem SR.later (q : SR w wr R O G b hs th tv tk clock k j ov oh) (hb : Below wr.heap.size wr w') : SR w w' R O G b hs th tv tk clock k j ov oh := by
  have hc : Chg [] wr w' := Chg.of_below hb []
  obtain ⟨v, m, hB, hsl, hM, hg⟩ := q.sn
  exact ⟨q.bR.chg hc (by simp), q.bO.chg hc (by simp), fun i hi => (q.sO i hi).chg hc (by simp), q.sT.chg hc (by simp), ⟨v, m, hB.chg hc (by simp), hsl.chg hc (by simp), hM.chg hc (by simp), hg⟩,
    bthen' q.below hb, q.oR, q.oO, q.oG, q.ob, q.ohs, q.oth, q.ooh, q.ne⟩
/-- Five cells of a block stored, one by one. -/
def st5 (W : World) (O : Nat) (u0 u1 u2 u3 u4 : Value) : World :=
  ((((W.setCell ⟨O, 0, none⟩ u0).setCell ⟨O, 1, none⟩ u1).setCell ⟨O, 2, none⟩ u2).setCell ⟨O, 3, none⟩ u3).setCell ⟨O, 4, none⟩ u4
theorem st5_far {W : World} {O : Nat} {u0 u1 u2 u3 u4 : Value} (k : Nat) (hk : k ≠ O) : (st5 W O u0 u1 u2 u3 u4).heap[k]? = W.heap[k]? := by
  unfold st5
  rw [Below.heap_setCell _ _ _ k hk, Below.heap_setCell _ _ _ k hk, Below.heap_setCell _ _ _ k hk, Below.heap_setCell _ _ _ k hk, Below.heap_setCell _ _ _ k hk]
theorem st5_blk {W : World} {O : Nat} {u0 u1 u2 u3 u4 : Value} {t : TypeId} {a0 a1 a2 a3 a4 : Value} (h : Blk W O t #[a0, a1, a2, a3, a4]) : Blk (st5 W O u0 u1 u2 u3 u4) O t #[u0, u1, u2, u3, u4] :=
  ((((h.set 0 u0).set 1 u1).set 2 u2).set 3 u3).set 4 u4
theorem st5_chg {S : List Nat} {a W : World} {O : Nat} {u0 u1 u2 u3 u4 : Value} (h : Chg S a W) (hO : O ∈ S ∨ a.heap.size ≤ O) : Chg S a (st5 W O u0 u1 u2 u3 u4) :=
  ((((h.set (p := ⟨O, 0, none⟩) hO u0).set (p := ⟨O, 1, none⟩) hO u1).set (p := ⟨O, 2, none⟩) hO u2).set (p := ⟨O, 3, none⟩) hO u3).set (p := ⟨O, 4, none⟩) hO u4

/-- Behind a round: what was told is the answer so far. -/
theorem SR.next {o : Obj} {cv : Nat → Value} {ch : Nat → Option Nat} (q : SR w wr R O G b hs th tv tk clock k j ov oh)
    (hS : ∀ i, i < 3 → Sl wr 3 1 (cv i) (ch i) (lsOf (toldS (seenOf tk j)) i).length (intsV (lsOf (toldS (seenOf tk j)) i)))
    (hf : ∀ i x, i < 3 → ch i = some x → w.heap.size ≤ x ∧ hs ≠ some x) :
    SR w (st5 (wr.alloc o) O (cv 0) (cv 1) (cv 2) (.int .i64 clock) (.bool false)) R O G b hs th tv tk clock j j cv ch := by
  have hc : Chg [O] wr (st5 (wr.alloc o) O (cv 0) (cv 1) (cv 2) (.int .i64 clock) (.bool false)) := st5_chg ((Chg.refl [O] wr).alloc o) (.inl (by simp))
  obtain ⟨v, m, hB, hsl, hM, hg⟩ := q.sn
  have sl_ne : ∀ {e : TypeId} {size n : Nat} {v : Value} {h : Option Nat} {xs : List Value}, Sl wr e size v h n xs → e ≠ 82 → ∀ x, h = some x → x ∉ [O] := by
    intro e size n v h xs hs he x hx hm
    simp at hm
    exact hs.ne_blk q.bO he x hx hm
  refine ⟨q.bR.chg hc (by simpa using q.ne), st5_blk (q.bO.alloc o), fun i hi => (hS i hi).chg hc (sl_ne (hS i hi) (by decide)), q.sT.chg hc (sl_ne q.sT (by decide)), ⟨v, m, hB.chg hc (by simpa using hB.ne q.bO (by decide)), hsl.chg hc (sl_ne hsl (by decide)), hM.chg hc (by simpa using hM.ne_blk q.bO), hg⟩,
    q.below.trans (hc.below q.below.size (by simpa using q.oO)), q.oR, q.oO, q.oG, q.ob, q.ohs, q.oth, hf, q.ne⟩

/-- What is handed back, behind five stores into the result. -/
theorem SR.back {u0 u1 u2 : Value} {st : Int} {more : Bool} (q : SR w wr R O G b hs th tv tk clock k j ov oh) {W : World} (hc : Chg [O] wr W)
    (hu : u0 = ov 0 ∧ u1 = ov 1 ∧ u2 = ov 2) :
    ChO (st5 W R u0 u1 u2 (.int .i64 st) (.bool more)) w.heap.size #[u0, u1, u2, .int .i64 st, .bool more] (toldS (seenOf tk k)) st more ∧ Below w.heap.size w (st5 W R u0 u1 u2 (.int .i64 st) (.bool more)) ∧
      Blk (st5 W R u0 u1 u2 (.int .i64 st) (.bool more)) R 82 #[u0, u1, u2, .int .i64 st, .bool more] := by
  obtain ⟨rfl, rfl, rfl⟩ := hu
  have hc2 : Chg [O, R] wr (st5 W R (ov 0) (ov 1) (ov 2) (.int .i64 st) (.bool more)) := st5_chg (hc.mono (T := [O, R]) (fun k hk => .inl (by simp at hk; simp [hk]))) (.inl (by simp))
  refine ⟨⟨ov, fun i => if i < 3 then oh i else none, rfl, fun i hi => ?_, fun i x hx => ?_⟩, q.below.trans (hc2.below q.below.size (fun x hx => by
    simp at hx
    rcases hx with rfl | rfl
    · exact q.oO
    · exact q.oR)), st5_blk (q.bR.chg hc (by simpa using q.ne))⟩
  · simp only [if_pos hi]
    refine (q.sO i hi).chg hc2 (fun x hx hm => ?_)
    simp at hm
    rcases hm with h | h
    · exact (q.sO i hi).ne_blk q.bO (by decide) x hx h
    · exact (q.sO i hi).ne_blk q.bR (by decide) x hx h
  · by_cases hi : i < 3
    · simp only [if_pos hi] at hx
      exact (q.ooh i x hi hx).1
    · simp [hi] at hx
end

/-- One round of the plain loop. -/
theorem loopP_step (frm clock most : Int) (f : Nat) (tk : List E4) (k j : Nat) (t : Told) (last m : Int) (hk : k < j) (hj : j ≤ tk.length) (hsame : ∀ i, k ≤ i → (h : i < j) → (tk[i]'(by omega)).m = m) (hstop : ∀ h : j < tk.length, (tk[j]'h).m ≠ m) :
    loopP frm clock most (f + 1) (tk.take k) (tk.drop k) t last =
      if 0 < most ∧ most < (toldS (seenOf tk j)).size then (if last = frm then Ans.none_ else ⟨t, last, true, 0⟩)
      else loopP frm clock most f (tk.take j) (tk.drop j) (toldS (seenOf tk j)) m := by
  have hkl : k < tk.length := by omega
  have e1 : tk.drop k = tk[k] :: tk.drop (k + 1) := List.drop_eq_getElem_cons hkl
  have hm : tk[k].m = m := hsame k (Nat.le_refl _) hk
  have e2 : (tk[k] :: tk.drop (k + 1)).takeWhile (fun e => e.m == tk[k].m) = (tk.drop k).take (j - k) := by
    rw [← e1, hm]
    have h1 : tk.drop k = (tk.drop k).take (j - k) ++ tk.drop j := by
      conv => lhs; rw [← List.take_append_drop (j - k) (tk.drop k)]
      rw [List.drop_drop, show k + (j - k) = j from by omega]
    have h2 : ∀ e ∈ (tk.drop k).take (j - k), (e.m == m) = true := by
      intro e he
      obtain ⟨i, hi, rfl⟩ := List.mem_iff_getElem.1 he
      have hi' : i < j - k := by
        have := hi
        simp only [List.length_take, List.length_drop] at this
        omega
      rw [List.getElem_take, List.getElem_drop]
      simpa using hsame (k + i) (by omega) (by omega)
    conv => lhs; rw [h1]
    rw [List.takeWhile_append_of_pos (fun e he => h2 e he)]
    by_cases hl : j < tk.length
    · rw [List.drop_eq_getElem_cons hl, List.takeWhile_cons]
      have : (tk[j].m == m) = false := by
        rw [beq_eq_false_iff_ne]
        exact hstop hl
      rw [this]
      simp
    · have h3 : tk.drop j = [] := List.drop_of_length_le (by omega)
      rw [h3]
      simp
  have hlen : ((tk.drop k).take (j - k)).length = j - k := by
    rw [List.length_take, List.length_drop]
    omega
  have e3 : tk.take k ++ (tk.drop k).take (j - k) = tk.take j := by
    rw [← List.take_add, show k + (j - k) = j from by omega]
  conv => lhs; rw [e1, loopP]
  simp only [e2, hlen, e3]
  rw [← e1, List.drop_drop, show k + (j - k) = j from by omega, hm]
  rfl

end Go.Proofs.YtmbibhphpjmboaaGreatDoor

namespace Go.Proofs.YtmbibhphpjmboaaGreatDoor
open Go.RowKit
attribute [local go_sem ↓] Go.wp_at_zero Go.wp_at_succ

/-- Memory in Since's first loop: the result's block, what was taken so far. -/
structure S1 (w wr : World) (R : Nat) (th : Option Nat) (tv : Value) (l : List E4) : Prop where
  bR : Blk wr R 82 #[.slice none 0 0, .slice none 0 0, .slice none 0 0, .int .i64 0, .bool false]
  sT : Sl wr 117 4 tv th l.length (flatE l)
  below : Below w.heap.size w wr
  oth : ∀ x, th = some x → w.heap.size ≤ x
  oR : w.heap.size ≤ R

theorem S1.alloc {w wr : World} {R : Nat} {th : Option Nat} {tv : Value} {l : List E4} (q : S1 w wr R th tv l) (o : Obj) : S1 w (wr.alloc o) R th tv l :=
  ⟨q.bR.alloc o, q.sT.alloc o, q.below.alloc q.below.size o, q.oth, q.oR⟩
theorem S1.app {w wr w2 : World} {R : Nat} {th h2 : Option Nat} {tv v2 : Value} {l : List E4} {o : Obj} {y : E4} (q : S1 w wr R th tv l)
    (hs2 : Sl w2 117 4 v2 h2 (l.length + 1) (flatE l ++ (#[.int .i64 y.m, .int .i64 y.k, .int .i64 y.i, .int .i64 y.h] : Array Value).toList))
    (hc2 : Chg th.toList (wr.alloc o) w2) (ho2 : h2 = th ∨ ∃ g, h2 = some g ∧ (wr.alloc o).heap.size ≤ g) : S1 w w2 R h2 v2 (l ++ [y]) := by
  have hsz : (wr.alloc o).heap.size = wr.heap.size + 1 := by simp
  have hfl : flatE l ++ (#[.int .i64 y.m, .int .i64 y.k, .int .i64 y.i, .int .i64 y.h] : Array Value).toList = flatE (l ++ [y]) := by rw [flatE_append]; rfl
  rw [hfl] at hs2
  refine ⟨(q.bR.alloc o).chg hc2 (fun hm => q.sT.ne_blk q.bR (by decide) R (by simpa using hm) rfl), by rw [List.length_append]; exact hs2, ?_, fun x hx => ?_, q.oR⟩
  · refine (q.below.alloc q.below.size o).trans (hc2.below (by rw [hsz]; have := q.below.size; omega) fun k hk => q.oth k (by simpa using hk))
  · rcases ho2 with h3 | ⟨g, h3, h4⟩
    · exact q.oth x (h3 ▸ hx)
    · rw [h3] at hx
      injection hx with hx
      have := q.below.size
      omega

theorem filter_take_succ (f : E4 → Bool) (l : List E4) (k : Nat) (hk : k < l.length) : (l.take (k + 1)).filter f = (l.take k).filter f ++ (if f l[k] = true then [l[k]] else []) := by
  rw [List.take_succ_eq_append_getElem hk, List.filter_append]
  congr 1
  by_cases h : f l[k] = true <;> simp [h]

theorem SR.start {w wc : World} {R : Nat} {th : Option Nat} {tv : Value} {tk : List E4} {clock : Int} (q : S1 w wc R th tv tk) :
    SR w (((wc.alloc (.map #[] 0)).alloc (.cells #[.slice none 0 0, .map (some wc.heap.size)] 160)).alloc (.cells #[.slice none 0 0, .slice none 0 0, .slice none 0 0, .int .i64 clock, .bool false] 82)) R (wc.heap.size + 1 + 1) (wc.heap.size + 1) wc.heap.size none th tv tk clock 0 0 (fun _ => .slice none 0 0) (fun _ => none) := by
  have hR := q.bR.lt
  have hw := q.below.size
  refine ⟨((q.bR.alloc _).alloc _).alloc _, ?_, fun i _ => ?_, ((q.sT.alloc _).alloc _).alloc _, ⟨.slice none 0 0, [], ?_, Sl.nil _ _ _, ((MapI.new wc).alloc _).alloc _, fun _ => rfl⟩, ?_, q.oR, by omega, by omega, by omega, fun _ h => (by cases h), q.oth, fun _ _ _ h => (by cases h), by omega⟩
  · have h1 := Blk.new ((wc.alloc (.map #[] 0)).alloc (.cells #[.slice none 0 0, .map (some wc.heap.size)] 160)) 82 #[.slice none 0 0, .slice none 0 0, .slice none 0 0, .int .i64 clock, .bool false]
    simp only [World.size_alloc] at h1
    exact h1
  · have : lsOf (toldS (seenOf tk 0)) i = [] := by
      simp [seenOf, toldS, lsOf]
    rw [this]
    exact Sl.nil _ _ _
  · have h1 := (Blk.new (wc.alloc (.map #[] 0)) 160 #[.slice none 0 0, .map (some wc.heap.size)]).alloc (.cells #[.slice none 0 0, .slice none 0 0, .slice none 0 0, .int .i64 clock, .bool false] 82)
    simp only [World.size_alloc] at h1
    exact h1
  · exact ((q.below.alloc hw _).alloc (by simp; omega) _).alloc (by simp; omega) _

theorem Sl.reads_at {w : World} {e : TypeId} {size n n' b off cap : Nat} {h : Option Nat} {xs : List Value} (hs : Sl w e size (.slice (some ⟨b, off, none⟩) n' cap) h n xs) (hn : 0 < n) :
    b < w.heap.size ∧ ∀ j, j < n * size → w.cell? ⟨b, off + j, none⟩ = xs[j]? := by
  obtain ⟨b2, off2, cap2, _, hv, _, _, hbl, hat⟩ := hs.at_ hn
  injection hv with hv1 _ _
  injection hv1 with hv1
  injection hv1 with hb ho _
  subst hb
  subst ho
  exact ⟨hbl, fun j hj => (hat j hj).1⟩

theorem ChO.form {w : World} {B : Nat} {c : Array Value} {t : Told} {st : Int} {more : Bool} (h : ChO w B c t st more) : ∃ (A0 A1 A2 : Option Addr) (p0 p1 p2 : Nat) (cv : Nat → Value) (hh : Nat → Option Nat),
    c = #[.slice A0 t.made.length p0, .slice A1 t.turned.length p1, .slice A2 t.gone.length p2, .int .i64 st, .bool more] ∧ cv 0 = .slice A0 t.made.length p0 ∧ cv 1 = .slice A1 t.turned.length p1 ∧ cv 2 = .slice A2 t.gone.length p2 ∧
      (∀ i, i < 3 → Sl w 3 1 (cv i) (hh i) (lsOf t i).length (intsV (lsOf t i))) ∧ ∀ i k, hh i = some k → B ≤ k := by
  obtain ⟨cv, hh, rfl, hsl, hown⟩ := h
  obtain ⟨A0, p0, h0, _⟩ := (hsl 0 (by decide)).form
  obtain ⟨A1, p1, h1, _⟩ := (hsl 1 (by decide)).form
  obtain ⟨A2, p2, h2, _⟩ := (hsl 2 (by decide)).form
  refine ⟨A0, A1, A2, p0, p1, p2, cv, hh, ?_, h0, h1, h2, hsl, hown⟩
  rw [h0, h1, h2]
  rfl

/-- What the ends load, and where they store. -/
structure SinceCells (W : World) (R O : Nat) (u0 u1 u2 : Value) (clock : Int) : Prop where
  o0 : W.cell? ⟨O, 0, none⟩ = some u0
  o1 : W.cell? ⟨O, 1, none⟩ = some u1
  o2 : W.cell? ⟨O, 2, none⟩ = some u2
  o3 : W.cell? ⟨O, 3, none⟩ = some (.int .i64 clock)
  o4 : W.cell? ⟨O, 4, none⟩ = some (.bool false)
  of0 : W.frozen? ⟨O, 0, none⟩ = false
  of1 : W.frozen? ⟨O, 1, none⟩ = false
  of2 : W.frozen? ⟨O, 2, none⟩ = false
  of3 : W.frozen? ⟨O, 3, none⟩ = false
  of4 : W.frozen? ⟨O, 4, none⟩ = false
  rc0 : W.cell? ⟨R, 0, none⟩ = some (.slice none 0 0)
  rc1 : W.cell? ⟨R, 1, none⟩ = some (.slice none 0 0)
  rc2 : W.cell? ⟨R, 2, none⟩ = some (.slice none 0 0)
  rc3 : W.cell? ⟨R, 3, none⟩ = some (.int .i64 0)
  rc4 : W.cell? ⟨R, 4, none⟩ = some (.bool false)
  rf0 : W.frozen? ⟨R, 0, none⟩ = false
  rf1 : W.frozen? ⟨R, 1, none⟩ = false
  rf2 : W.frozen? ⟨R, 2, none⟩ = false
  rf3 : W.frozen? ⟨R, 3, none⟩ = false
  rf4 : W.frozen? ⟨R, 4, none⟩ = false
  ol : O < W.heap.size
  rl : R < W.heap.size
  ne1 : ¬ R = O
  ne2 : ¬ O = R
theorem SR.cells {w wr : World} {R O G b : Nat} {hs th : Option Nat} {tv : Value} {tk : List E4} {clock : Int} {k j : Nat} {ov : Nat → Value} {oh : Nat → Option Nat} {u0 u1 u2 : Value} (q : SR w wr R O G b hs th tv tk clock k j ov oh)
    (h0 : ov 0 = u0) (h1 : ov 1 = u1) (h2 : ov 2 = u2) : SinceCells wr R O u0 u1 u2 clock := by
  subst h0
  subst h1
  subst h2
  exact ⟨q.bO.cell 0, q.bO.cell 1, q.bO.cell 2, q.bO.cell 3, q.bO.cell 4, q.bO.frozen 0, q.bO.frozen 1, q.bO.frozen 2, q.bO.frozen 3, q.bO.frozen 4, q.bR.cell 0, q.bR.cell 1, q.bR.cell 2, q.bR.cell 3, q.bR.cell 4, q.bR.frozen 0, q.bR.frozen 1, q.bR.frozen 2, q.bR.frozen 3, q.bR.frozen 4, q.bO.lt, q.bR.lt, q.ne, fun h => q.ne h.symm⟩

theorem SR.zero {w wr : World} {R O G b : Nat} {hs th : Option Nat} {tv : Value} {tk : List E4} {clock : Int} {k j : Nat} {ov : Nat → Value} {oh : Nat → Option Nat} (q : SR w wr R O G b hs th tv tk clock k j ov oh) (o : Obj) :
    Below w.heap.size w ((st5 wr R (.slice none 0 0) (.slice none 0 0) (.slice none 0 0) (.int .i64 0) (.bool false)).alloc o) ∧ Blk ((st5 wr R (.slice none 0 0) (.slice none 0 0) (.slice none 0 0) (.int .i64 0) (.bool false)).alloc o) R 82 #[.slice none 0 0, .slice none 0 0, .slice none 0 0, .int .i64 0, .bool false] := by
  have h1 := ((((q.below.setCell (p := ⟨R, 0, none⟩) q.oR (.slice none 0 0)).setCell (p := ⟨R, 1, none⟩) q.oR (.slice none 0 0)).setCell (p := ⟨R, 2, none⟩) q.oR (.slice none 0 0)).setCell (p := ⟨R, 3, none⟩) q.oR (.int .i64 0)).setCell (p := ⟨R, 4, none⟩) q.oR (.bool false)
  exact ⟨h1.alloc h1.size o, (st5_blk q.bR).alloc o⟩
/-- What is handed back, whatever is made behind. -/
theorem SR.back2 {w wr W : World} {R O G b : Nat} {hs th : Option Nat} {tv : Value} {tk : List E4} {clock : Int} {k j : Nat} {ov : Nat → Value} {oh : Nat → Option Nat} {u0 u1 u2 : Value} {st : Int} {more : Bool} (q : SR w wr R O G b hs th tv tk clock k j ov oh) (hc : Chg [O] wr W)
    (hu : u0 = ov 0 ∧ u1 = ov 1 ∧ u2 = ov 2) (o : Obj) :
    ChO ((st5 W R u0 u1 u2 (.int .i64 st) (.bool more)).alloc o) w.heap.size #[u0, u1, u2, .int .i64 st, .bool more] (toldS (seenOf tk k)) st more ∧ Below w.heap.size w ((st5 W R u0 u1 u2 (.int .i64 st) (.bool more)).alloc o) ∧
      Blk ((st5 W R u0 u1 u2 (.int .i64 st) (.bool more)).alloc o) R 82 #[u0, u1, u2, .int .i64 st, .bool more] := by
  obtain ⟨⟨vs, hs, h1, h2, h3⟩, h4, h5⟩ := SR.back (st := st) (more := more) q hc hu
  exact ⟨⟨vs, hs, h1, fun i hi => (h2 i hi).alloc o, h3⟩, h4.alloc h4.size o, h5.alloc o⟩
/-- Behind a round, what was told lying behind the stores. -/
theorem SR.next2 {w wr : World} {R O G b : Nat} {hs th : Option Nat} {tv : Value} {tk : List E4} {clock : Int} {k j : Nat} {ov : Nat → Value} {oh : Nat → Option Nat} {o : Obj} {cv : Nat → Value} {ch : Nat → Option Nat} (q : SR w wr R O G b hs th tv tk clock k j ov oh)
    (hS : ∀ i, i < 3 → Sl wr 3 1 (cv i) (ch i) (lsOf (toldS (seenOf tk j)) i).length (intsV (lsOf (toldS (seenOf tk j)) i)))
    (hf : ∀ i x, i < 3 → ch i = some x → w.heap.size ≤ x ∧ hs ≠ some x) :
    SR w ((st5 wr O (cv 0) (cv 1) (cv 2) (.int .i64 clock) (.bool false)).alloc o) R O G b hs th tv tk clock j j cv ch := by
  have hc : Chg [O] wr ((st5 wr O (cv 0) (cv 1) (cv 2) (.int .i64 clock) (.bool false)).alloc o) := (st5_chg (Chg.refl [O] wr) (.inl (by simp))).alloc o
  obtain ⟨v, m, hB, hsl, hM, hg⟩ := q.sn
  have sl_ne : ∀ {e : TypeId} {size n : Nat} {v : Value} {h : Option Nat} {xs : List Value}, Sl wr e size v h n xs → e ≠ 82 → ∀ x, h = some x → x ∉ [O] := by
    intro e size n v h xs hs he x hx hm
    simp at hm
    exact hs.ne_blk q.bO he x hx hm
  refine ⟨q.bR.chg hc (by simpa using q.ne), (st5_blk q.bO).alloc o, fun i hi => (hS i hi).chg hc (sl_ne (hS i hi) (by decide)), q.sT.chg hc (sl_ne q.sT (by decide)), ⟨v, m, hB.chg hc (by simpa using hB.ne q.bO (by decide)), hsl.chg hc (sl_ne hsl (by decide)), hM.chg hc (by simpa using hM.ne_blk q.bO), hg⟩,
    q.below.trans (hc.below q.below.size (by simpa using q.oO)), q.oR, q.oO, q.oG, q.ob, q.ohs, q.oth, hf, q.ne⟩
theorem SR.hs_lt {w wr : World} {R O G b : Nat} {hs th : Option Nat} {tv : Value} {tk : List E4} {clock : Int} {k j : Nat} {ov : Nat → Value} {oh : Nat → Option Nat} (q : SR w wr R O G b hs th tv tk clock k j ov oh) (x : Nat) (h : hs = some x) : x < wr.heap.size := by
  obtain ⟨v, m, _, hsl, _, _⟩ := q.sn
  exact hsl.lt x h

theorem S1.took {w wr : World} {R : Nat} {th : Option Nat} {tv : Value} {l l' : List E4} {y : E4} {f : E4 → Bool} (q : S1 w wr R th tv (l ++ [y])) (hl : l' = l ++ (if f y = true then [y] else [])) (hyes : f y = true) : S1 w wr R th tv l' := by
  rw [hl, if_pos hyes]
  exact q
theorem S1.skip {w wr : World} {R : Nat} {th : Option Nat} {tv : Value} {l l' : List E4} {y : E4} {f : E4 → Bool} (q : S1 w wr R th tv l) (hl : l' = l ++ (if f y = true then [y] else [])) (hno : ¬ f y = true) (o : Obj) : S1 w (wr.alloc o) R th tv l' := by
  rw [hl, if_neg hno, List.append_nil]
  exact q.alloc o

theorem zeroChO (w : World) (B : Nat) : ChO w B #[.slice none 0 0, .slice none 0 0, .slice none 0 0, .int .i64 0, .bool false] ⟨[], [], []⟩ 0 false :=
  ⟨fun _ => .slice none 0 0, fun _ => none, rfl, fun i _ => by
    have : lsOf ⟨[], [], []⟩ i = [] := by
      unfold lsOf
      split
      · rfl
      · split
        · rfl
        · split <;> rfl
    rw [this]
    exact Sl.nil _ _ _, fun _ _ h => by cases h⟩

set_option maxRecDepth 100000 in
set_option maxHeartbeats 4000000 in
theorem since_any (w : World) (g : Nat) (h : Option Nat) (x : LogV) (kind frm clock most : Int) (hl : LogAt w g h x) (hn : x.es.length ≤ 1099511627776) :
    Calls Tryz.prog 41 #[.pointer (some ⟨g, 0, none⟩), .int .i64 kind, .int .i64 frm, .int .i64 clock, .int .i64 most] w fun e w' =>
      ∃ c, e = .returned (.tuple #[.agg c, .int .i64 (x.since kind frm clock most).err]) ∧ ChO w' w.heap.size c (x.since kind frm clock most).t (x.since kind frm clock most).state (x.since kind frm clock most).more ∧ Below w.heap.size w w' := by
  obtain ⟨i0, hi, hz0, hz1, hz2⟩ := info_parts Try.infoEntry
  obtain ⟨v, hB, hsl⟩ := hl
  have hgl := hB.lt
  have c1 : w.cell? ⟨g, 1, none⟩ = some v := hB.cell 1
  have c2 : w.cell? ⟨g, 2, none⟩ = some (.int .i64 x.floor) := hB.cell 2
  obtain ⟨A, cap, rfl, _, _⟩ := hsl.form
  have HSL := Lib.hid hsl
  clear hB hsl
  have hZ : Blk (w.alloc (.cells #[.slice none 0 0, .slice none 0 0, .slice none 0 0, .int .i64 0, .bool false] 82)) w.heap.size 82 #[.slice none 0 0, .slice none 0 0, .slice none 0 0, .int .i64 0, .bool false] := Blk.new w _ _
  have z0 : (w.alloc (.cells #[.slice none 0 0, .slice none 0 0, .slice none 0 0, .int .i64 0, .bool false] 82)).cell? ⟨w.heap.size, 0, none⟩ = some (.slice none 0 0) := hZ.cell 0
  have z1 : (w.alloc (.cells #[.slice none 0 0, .slice none 0 0, .slice none 0 0, .int .i64 0, .bool false] 82)).cell? ⟨w.heap.size, 1, none⟩ = some (.slice none 0 0) := hZ.cell 1
  have z2 : (w.alloc (.cells #[.slice none 0 0, .slice none 0 0, .slice none 0 0, .int .i64 0, .bool false] 82)).cell? ⟨w.heap.size, 2, none⟩ = some (.slice none 0 0) := hZ.cell 2
  have z3 : (w.alloc (.cells #[.slice none 0 0, .slice none 0 0, .slice none 0 0, .int .i64 0, .bool false] 82)).cell? ⟨w.heap.size, 3, none⟩ = some (.int .i64 0) := hZ.cell 3
  have z4 : (w.alloc (.cells #[.slice none 0 0, .slice none 0 0, .slice none 0 0, .int .i64 0, .bool false] 82)).cell? ⟨w.heap.size, 4, none⟩ = some (.bool false) := hZ.cell 4
  by_cases hfl : frm < x.floor
  · have hans : x.since kind frm clock most = Ans.none_ := by
      unfold LogV.since
      rw [if_pos (.inl hfl)]
    rw [hans]
    go_enter Tryz.func41, Tryz.ntmps41
    go_wp2
    refine bodyPost_ret (v := .tuple #[.agg #[.slice none 0 0, .slice none 0 0, .slice none 0 0, .int .i64 0, .bool false], .int .i64 12]) ?_ rfl ⟨_, rfl, zeroChO _ _, (Below.refl _ _).alloc (Nat.le_refl _) _⟩
    simp [results, Tryz.results41, go_sem, z0, z1, z2, z3, z4]
  · by_cases hcl : clock < frm
    · have hans : x.since kind frm clock most = Ans.none_ := by
        unfold LogV.since
        rw [if_pos (.inr hcl)]
      rw [hans]
      go_enter Tryz.func41, Tryz.ntmps41
      go_wp2
      refine bodyPost_ret (v := .tuple #[.agg #[.slice none 0 0, .slice none 0 0, .slice none 0 0, .int .i64 0, .bool false], .int .i64 12]) ?_ rfl ⟨_, rfl, zeroChO _ _, (Below.refl _ _).alloc (Nat.le_refl _) _⟩
      simp [results, Tryz.results41, go_sem, z0, z1, z2, z3, z4]
    · obtain ⟨ans, hans⟩ : ∃ ans, x.since kind frm clock most = ans := ⟨_, rfl⟩
      have hgo : loopP frm clock most (x.es.filter (takes kind frm clock)).length [] (x.es.filter (takes kind frm clock)) ⟨[], [], []⟩ frm = ans := by
        rw [← hans]
        unfold LogV.since
        rw [if_neg (by omega)]
      rw [hans]
      have HGO := Lib.hid hgo
      clear hgo hans z0 z1 z2 z3 z4
      have hstart : S1 w (w.alloc (.cells #[.slice none 0 0, .slice none 0 0, .slice none 0 0, .int .i64 0, .bool false] 82)) w.heap.size none (.slice none 0 0) ((x.es.take 0).filter (takes kind frm clock)) :=
        ⟨hZ, (by simp only [List.take_zero, List.filter_nil]; exact Sl.nil _ _ _), (Below.refl _ _).alloc (Nat.le_refl _) _, (fun _ h => by cases h), Nat.le_refl _⟩
      have HS := Lib.hid hstart
      clear hstart hZ
      obtain ⟨L, hL⟩ : ∃ L, x.es.length = L := ⟨_, rfl⟩
      rw [hL] at c1 hn HSL
      have HL := Lib.hid hL
      clear hL
      go_enter Tryz.func41, Tryz.ntmps41
      go_upto_block 1 with (fail)
      go_cut [12] (fun tv wx => ∃ th, Hid (S1 w wx w.heap.size th tv (x.es.filter (takes kind frm clock))))
      case first =>
        go_wp2_with fail
        go_loopw [12, 41] (fun tv i wr => ∃ (k : Nat) (th : Option Nat), k ≤ L ∧ i = .int .i64 k ∧ Hid (S1 w wr w.heap.size th tv ((x.es.take k).filter (takes kind frm clock)))) (fun _ i _ => L - (intOf i).toNat)
        case atStart => exact ⟨0, _, Nat.zero_le _, rfl, HS⟩
        case round =>
          obtain ⟨k, th, hk, rfl, HU⟩ := hrel
          by_cases hlt : k < L
          · have hke : k < x.es.length := by rw [HL.out]; exact hlt
            have hbel := HU.out.below
            have hwsz := hbel.size
            obtain ⟨ba, off, cap2, hh, hva, _, _, hbl, hat⟩ := HSL.out.at_ (by omega)
            injection hva with hva1 _ hva3
            subst hva1
            subst hva3
            have hrd : ∀ j, j < L * 4 → wr.cell? ⟨ba, off + j, none⟩ = (flatE x.es)[j]? := fun j hj => (hbel.cell (p := ⟨ba, off + j, none⟩) hbl).trans (hat j hj).1
            obtain ⟨f0, f1, f2, f3⟩ := flatE_at x.es k hke
            have d0 : wr.cell? ⟨ba, off + k * 4, none⟩ = some (.int .i64 x.es[k].m) := (hrd (k * 4) (by omega)).trans f0
            have d1 : wr.cell? ⟨ba, off + k * 4 + 1, none⟩ = some (.int .i64 x.es[k].k) := (hrd (k * 4 + 1) (by omega)).trans f1
            have d2 : wr.cell? ⟨ba, off + k * 4 + 2, none⟩ = some (.int .i64 x.es[k].i) := (hrd (k * 4 + 2) (by omega)).trans f2
            have d3 : wr.cell? ⟨ba, off + k * 4 + 3, none⟩ = some (.int .i64 x.es[k].h) := (hrd (k * 4 + 3) (by omega)).trans f3
            clear hrd hat f0 f1 f2 f3
            have hbl2 : ba < wr.heap.size := Nat.lt_of_lt_of_le hbl hwsz
            have hsucc := filter_take_succ (takes kind frm clock) x.es k hke
            have hlen : ((x.es.take k).filter (takes kind frm clock)).length ≤ 1099511627776 := by
              have := List.length_filter_le (takes kind frm clock) (x.es.take k)
              rw [List.length_take] at this
              omega
            have HSUCC := Lib.hid hsucc
            have HLEN := Lib.hid hlen
            clear hsucc hlen hbel
            generalize x.es[k] = y at d0 d1 d2 d3 HSUCC
            by_cases hk1 : y.k = kind
            · have hk1' : (y.k == kind) = true := by simpa using hk1
              by_cases hm1 : frm < y.m
              · by_cases hm2 : y.m ≤ clock
                · have htk : takes kind frm clock y = true := by simp [takes, hk1, hm1, hm2]
                  clear hk1
                  go_wp2_with (at_builtin; refine wpList_append_slX rfl _ _ 93 rfl Tryz.underlying93 hi hz0 hz1 hz2 rfl (by decide) (HU.out.sT.alloc _) rfl (wr.heap.size + 1) (by simp) 1 1 rfl rfl ?_ ?_ ?_ ?_)
                  · simp [Value.oneCell']
                  · have := HLEN.out
                    unfold maxLen
                    omega
                  · have := HLEN.out
                    omega
                  · intro v2 h2 w2 hs2 hc2 ho2
                    have q := HU.out.app hs2 hc2 (by simpa using ho2)
                    obtain ⟨A2, cap3, rfl, _, _⟩ := hs2.form
                    have hq := S1.took q HSUCC.out htk
                    have HQ := Lib.hid hq
                    clear q hq hs2 hc2 ho2
                    go_wp2
                    refine ⟨?_, by simp [intOf]; omega⟩
                    first | exact ⟨k + 1, _, by omega, by go_num, HQ⟩ | ((repeat apply Exists.intro); exact ⟨⟨k + 1, _, by omega, by go_num, HQ⟩, rfl⟩)
                · have HQ := fun o => Lib.hid (S1.skip HU.out HSUCC.out (by simp [takes, hm2]) o)
                  clear hk1
                  go_wp2
                  refine ⟨?_, by simp [intOf]; omega⟩
                  first | exact ⟨k + 1, _, by omega, by go_num, HQ _⟩ | ((repeat apply Exists.intro); exact ⟨⟨k + 1, _, by omega, by go_num, HQ _⟩, rfl⟩)
              · have HQ := fun o => Lib.hid (S1.skip HU.out HSUCC.out (by simp [takes, hm1]) o)
                clear hk1
                go_wp2
                refine ⟨?_, by simp [intOf]; omega⟩
                first | exact ⟨k + 1, _, by omega, by go_num, HQ _⟩ | ((repeat apply Exists.intro); exact ⟨⟨k + 1, _, by omega, by go_num, HQ _⟩, rfl⟩)
            · have hk1' : (y.k == kind) = false := by simpa using hk1
              have HQ := fun o => Lib.hid (S1.skip HU.out HSUCC.out (by simp [takes, hk1]) o)
              go_wp2
              refine ⟨?_, by simp [intOf]; omega⟩
              first | exact ⟨k + 1, _, by omega, by go_num, HQ _⟩ | ((repeat apply Exists.intro); exact ⟨⟨k + 1, _, by omega, by go_num, HQ _⟩, rfl⟩)
          · have hkL : k = L := by omega
            subst hkL
            have h1 := HU.out
            rw [List.take_of_length_le (by rw [HL.out]; exact Nat.le_refl _)] at h1
            have HQ := Lib.hid h1
            clear h1
            go_wp2_with fail
            go_meet
            exact ⟨_, HQ⟩
      case rest =>
        obtain ⟨th, HU⟩ := hcut
        have hTl : (x.es.filter (takes kind frm clock)).length ≤ 1099511627776 := by
          have := List.length_filter_le (takes kind frm clock) x.es
          have := HL.out
          omega
        generalize x.es.filter (takes kind frm clock) = tk at HU HGO hTl
        obtain ⟨A1, cap1, hv1, _, _⟩ := HU.out.sT.form
        clear HL HSL c1 c2 hgl hfl hcl HS
        obtain ⟨T, hT⟩ : ∃ T, tk.length = T := ⟨_, rfl⟩
        rw [hT] at hTl HGO hv1
        subst hv1
        have HT := Lib.hid hT
        clear hT
        have hsr := SR.start (clock := clock) HU.out
        have HSR := Lib.hid hsr
        clear hsr HU
        have hmm := @run_makeMap Tryz.prog
        go_wp2_with fail
        clear hmm
        generalize ((wc.alloc (Obj.map #[] 0)).alloc (Obj.cells #[Value.slice none 0 0, Value.map (some wc.heap.size)] 160)).alloc (Obj.cells #[.slice none 0 0, .slice none 0 0, .slice none 0 0, .int .i64 clock, .bool false] 82) = W0 at HSR ⊢
        generalize wc.heap.size + 1 + 1 = O at HSR ⊢
        generalize wc.heap.size + 1 = G at HSR ⊢
        generalize wc.heap.size = b at HSR ⊢
        go_loopw [17, 18] (fun la i wr => ∃ (k f : Nat) (lst : Int) (hs : Option Nat) (ov : Nat → Value) (oh : Nat → Option Nat), k ≤ T ∧ la = .int .i64 lst ∧ i = .int .i64 k ∧ Hid (SR w wr w.heap.size O G b hs th (.slice A1 T cap1) tk clock k k ov oh) ∧ Hid (T ≤ k + f ∧ loopP frm clock most f (tk.take k) (tk.drop k) (toldS (seenOf tk k)) lst = ans)) (fun _ i _ => T - (intOf i).toNat)
        case atStart => exact ⟨0, T, frm, none, _, _, Nat.zero_le _, rfl, rfl, HSR, ⟨by omega, HGO.out⟩⟩
        case round =>
          obtain ⟨k, f, lst, hs, ov, oh, hk, rfl, rfl, HU, HF⟩ := hrel
          by_cases hlt : k < T
          · have hke : k < tk.length := by rw [HT.out]; exact hlt
            obtain ⟨ba, off, cap2, hh, hva, _, _, hbl, hat⟩ := HU.out.sT.at_ (by omega)
            injection hva with hva1 hva2 hva3
            clear hva2
            subst hva1
            subst hva3
            have d0 : wr.cell? ⟨ba, off + k * 4, none⟩ = some (.int .i64 tk[k].m) := (hat (k * 4) (by omega)).1.trans (flatE_at tk k hke).1
            clear hat
            generalize hm : tk[k].m = m at d0
            have HM := Lib.hid hm
            clear hm
            go_upto_block 5 with (fail)
            go_cut [18] (fun i wx => ∃ (j : Nat) (hs' : Option Nat), k < j ∧ j ≤ T ∧ i = .int .i64 j ∧ Hid (SR w wx w.heap.size O G b hs' th (.slice (some ⟨ba, off, none⟩) T cap1) tk clock k j ov oh) ∧ Hid ((∀ i, k ≤ i → i < j → ∀ h : i < tk.length, tk[i].m = m) ∧ ∀ h : j < tk.length, tk[j].m ≠ m))
            case first =>
              go_wp2_with fail
              go_loopw [18] (fun i wx => ∃ (j : Nat) (hs' : Option Nat), k ≤ j ∧ j ≤ T ∧ i = .int .i64 j ∧ Hid (SR w wx w.heap.size O G b hs' th (.slice (some ⟨ba, off, none⟩) T cap1) tk clock k j ov oh) ∧ Hid (∀ i, k ≤ i → i < j → ∀ h : i < tk.length, tk[i].m = m)) (fun i _ => T - (intOf i).toNat)
              case atStart => exact ⟨k, hs, Nat.le_refl _, hk, rfl, HU, Lib.hid (fun i h1 h2 => absurd h1 (by omega))⟩
              case round =>
                obtain ⟨j, hs2, hkj, hjT, rfl, HV, HA⟩ := hrel
                by_cases hjl : j < T
                · have hje : j < tk.length := by rw [HT.out]; exact hjl
                  obtain ⟨hbl2, hat⟩ := HV.out.sT.reads_at (by omega)
                  obtain ⟨f0, f1, f2, f3⟩ := flatE_at tk j hje
                  have e0 : wr.cell? ⟨ba, off + j * 4, none⟩ = some (.int .i64 tk[j].m) := (hat (j * 4) (by omega)).trans f0
                  have e1 : wr.cell? ⟨ba, off + j * 4 + 1, none⟩ = some (.int .i64 tk[j].k) := (hat (j * 4 + 1) (by omega)).trans f1
                  have e2 : wr.cell? ⟨ba, off + j * 4 + 2, none⟩ = some (.int .i64 tk[j].i) := (hat (j * 4 + 2) (by omega)).trans f2
                  have e3 : wr.cell? ⟨ba, off + j * 4 + 3, none⟩ = some (.int .i64 tk[j].h) := (hat (j * 4 + 3) (by omega)).trans f3
                  have hadd := listsAdd_any wr G hs2 b (seenOf tk j) tk[j] HV.out.sn (by have := seenOf_length tk j (by omega); omega)
                  have hnext := fun w' hs' => SR.add (w' := w') (hs' := hs') HV.out hje
                  have HN := Lib.hid hnext
                  clear hat f0 f1 f2 f3 hnext
                  by_cases hy : tk[j].m = m
                  · have hall : ∀ i, k ≤ i → i < j + 1 → ∀ h : i < tk.length, tk[i].m = m := fun i h1 h2 h => by
                      by_cases hij : i = j
                      · subst hij
                        exact hy
                      · exact HA.out i h1 (by omega) h
                    have HALL := Lib.hid hall
                    generalize tk[j] = y at e0 e1 e2 e3 hadd HN hy
                    have hy' : (y.m == m) = true := by simpa using hy
                    clear hall hy
                    go_wp2_with (go_at_call 103; refine hadd.mono ?_; rintro e w2 ⟨rfl, h2, hsn, hc, ho⟩; have HQ := Lib.hid (HN.out w2 h2 hsn hc ho); clear hsn hc ho hadd)
                    refine ⟨?_, by simp [intOf]; omega⟩
                    first | exact ⟨j + 1, h2, by omega, by omega, by go_num, HQ, HALL⟩ | ((repeat apply Exists.intro); exact ⟨⟨j + 1, h2, by omega, by omega, by go_num, HQ, HALL⟩, rfl⟩)
                  · have hy' : (tk[j].m == m) = false := by simpa using hy
                    have hlast : ∀ h : j < tk.length, tk[j].m ≠ m := fun _ => hy
                    have HLAST := Lib.hid hlast
                    have hkj2 : k < j := by
                      rcases Nat.lt_or_ge k j with h1 | h1
                      · exact h1
                      · obtain rfl : k = j := by omega
                        exact absurd HM.out hy
                    clear hlast hadd HN hy
                    generalize tk[j].m = ym at e0 hy'
                    go_wp2_with fail
                    go_meet
                    exact ⟨j, hs2, hkj2, hjT, rfl, HV, ⟨HA.out, HLAST.out⟩⟩
                · have hjT' : j = T := by omega
                  subst hjT'
                  go_wp2_with fail
                  go_meet
                  exact ⟨_, hs2, hlt, Nat.le_refl _, rfl, HV, ⟨HA.out, fun h => absurd h (by rw [HT.out]; omega)⟩⟩
            case rest =>
              obtain ⟨j, hs2, hkj, hjT, rfl, HV, HA⟩ := hcut
              obtain ⟨f, rfl⟩ : ∃ f', f = f' + 1 := ⟨f - 1, by have := HF.out.1; omega⟩
              have hjl : j ≤ tk.length := by rw [HT.out]; exact hjT
              have hstep := loopP_step frm clock most f tk k j (toldS (seenOf tk k)) lst m hkj hjl (fun i h1 h2 => HA.out.1 i h1 h2 (by omega)) HA.out.2
              rw [HF.out.2] at hstep
              have hsn := seenOf_length tk j hjl
              have hln : ∀ i, (lsOf (toldS (seenOf tk j)) i).length ≤ j := fun i => by
                have := toldF_len (seenOf tk j) (seenOf tk j).length (Nat.le_refl _) i
                rw [toldF_all] at this
                omega
              have htold := told_any wc G hs2 b (seenOf tk j) HV.out.sn (seenOf_nodup tk j hjl) (by omega)
              have n0 : (toldS (seenOf tk j)).made.length ≤ j := hln 0
              have n1 : (toldS (seenOf tk j)).turned.length ≤ j := hln 1
              have n2 : (toldS (seenOf tk j)).gone.length ≤ j := hln 2
              have hsz : ((toldS (seenOf tk j)).size : Int) = ((toldS (seenOf tk j)).made.length : Int) + ((toldS (seenOf tk j)).turned.length : Int) + ((toldS (seenOf tk j)).gone.length : Int) := by
                unfold Told.size
                omega
              rw [hsz] at hstep
              have ww1 : IntKind.i64.wrap (((toldS (seenOf tk j)).made.length : Int) + ((toldS (seenOf tk j)).turned.length : Int)) = ((toldS (seenOf tk j)).made.length : Int) + ((toldS (seenOf tk j)).turned.length : Int) := IntWalk.i64_in _ (by omega)
              have ww2 : IntKind.i64.wrap (((toldS (seenOf tk j)).made.length : Int) + ((toldS (seenOf tk j)).turned.length : Int) + ((toldS (seenOf tk j)).gone.length : Int)) = ((toldS (seenOf tk j)).made.length : Int) + ((toldS (seenOf tk j)).turned.length : Int) + ((toldS (seenOf tk j)).gone.length : Int) := IntWalk.i64_in _ (by omega)
              have HSTEP := Lib.hid hstep
              have hfl : T ≤ j + f := by have := HF.out.1; omega
              clear hstep hsn hln hjl hsz
              obtain ⟨D0, r0, hv0, _, _⟩ := (HU.out.sO 0 (by decide)).form
              obtain ⟨D1, r1, hv1, _, _⟩ := (HU.out.sO 1 (by decide)).form
              obtain ⟨D2, r2, hv2, _, _⟩ := (HU.out.sO 2 (by decide)).form
              have HV0 := Lib.hid hv0
              have HV1 := Lib.hid hv1
              have HV2 := Lib.hid hv2
              clear hv0 hv1 hv2 d0 hbl
              by_cases hmo : 0 < most
              · by_cases hov : most < ((toldS (seenOf tk j)).made.length : Int) + ((toldS (seenOf tk j)).turned.length : Int) + ((toldS (seenOf tk j)).gone.length : Int)
                · by_cases hlf : lst = frm
                  · have hend : ans = Ans.none_ := by
                      have h1 := HSTEP.out
                      rw [if_pos ⟨hmo, hov⟩, if_pos hlf] at h1
                      exact h1
                    have HEND := Lib.hid hend
                    have hlf' : (lst == frm) = true := by simpa using hlf
                    clear hend hlf
                    go_wp2_with (go_at_call 104; refine htold.mono ?_; rintro e w2 ⟨c, rfl, hch, hb⟩; obtain ⟨A0, A1, A2, p0, p1, p2, cv, hh2, rfl, k0, k1, k2, hsl, hown⟩ := hch.form; have HQ := Lib.hid (HV.out.later hb); have HSL2 := Lib.hid hsl; have HOWN := Lib.hid hown; have HK0 := Lib.hid k0; have HK1 := Lib.hid k1; have HK2 := Lib.hid k2; clear hb hch htold hsl hown k0 k1 k2; obtain ⟨o0, o1, o2, o3, o4, of0, of1, of2, of3, of4, rc0, rc1, rc2, rc3, rc4, rf0, rf1, rf2, rf3, rf4, ol, rl, ne1, ne2⟩ := HQ.out.cells HV0.out HV1.out HV2.out)
                    have hF := SR.zero HQ.out (.cells #[.slice A0 (toldS (seenOf tk j)).made.length p0, .slice A1 (toldS (seenOf tk j)).turned.length p1, .slice A2 (toldS (seenOf tk j)).gone.length p2, .int .i64 0, .bool false] 82)
                    unfold st5 at hF
                    generalize (((((w2.setCell ⟨w.heap.size, 0, none⟩ (.slice none 0 0)).setCell ⟨w.heap.size, 1, none⟩ (.slice none 0 0)).setCell ⟨w.heap.size, 2, none⟩ (.slice none 0 0)).setCell ⟨w.heap.size, 3, none⟩ (.int .i64 0)).setCell ⟨w.heap.size, 4, none⟩ (.bool false)).alloc (.cells #[.slice A0 (toldS (seenOf tk j)).made.length p0, .slice A1 (toldS (seenOf tk j)).turned.length p1, .slice A2 (toldS (seenOf tk j)).gone.length p2, .int .i64 0, .bool false] 82) = WF at hF ⊢
                    obtain ⟨q2, q3⟩ := hF
                    have s0 : WF.cell? ⟨w.heap.size, 0, none⟩ = some (.slice none 0 0) := q3.cell 0
                    have s1 : WF.cell? ⟨w.heap.size, 1, none⟩ = some (.slice none 0 0) := q3.cell 1
                    have s2 : WF.cell? ⟨w.heap.size, 2, none⟩ = some (.slice none 0 0) := q3.cell 2
                    have s3 : WF.cell? ⟨w.heap.size, 3, none⟩ = some (.int .i64 0) := q3.cell 3
                    have s4 : WF.cell? ⟨w.heap.size, 4, none⟩ = some (.bool false) := q3.cell 4
                    refine bodyPost_ret (v := .tuple #[.agg #[.slice none 0 0, .slice none 0 0, .slice none 0 0, .int .i64 0, .bool false], .int .i64 12]) ?_ rfl ?_
                    · simp [results, Tryz.results41, go_sem, s0, s1, s2, s3, s4]
                    · rw [HEND.out]
                      exact ⟨_, rfl, zeroChO _ _, q2⟩
                  · have hend : ans = ⟨toldS (seenOf tk k), lst, true, 0⟩ := by
                      have h1 := HSTEP.out
                      rw [if_pos ⟨hmo, hov⟩, if_neg hlf] at h1
                      exact h1
                    have HEND := Lib.hid hend
                    have hlf' : (lst == frm) = false := by simpa using hlf
                    clear hend hlf
                    go_wp2_with (go_at_call 104; refine htold.mono ?_; rintro e w2 ⟨c, rfl, hch, hb⟩; obtain ⟨A0, A1, A2, p0, p1, p2, cv, hh2, rfl, k0, k1, k2, hsl, hown⟩ := hch.form; have HQ := Lib.hid (HV.out.later hb); have HSL2 := Lib.hid hsl; have HOWN := Lib.hid hown; have HK0 := Lib.hid k0; have HK1 := Lib.hid k1; have HK2 := Lib.hid k2; clear hb hch htold hsl hown k0 k1 k2; obtain ⟨o0, o1, o2, o3, o4, of0, of1, of2, of3, of4, rc0, rc1, rc2, rc3, rc4, rf0, rf1, rf2, rf3, rf4, ol, rl, ne1, ne2⟩ := HQ.out.cells HV0.out HV1.out HV2.out)
                    have hF := SR.back2 (st := lst) (more := true) HQ.out (W := (w2.setCell ⟨O, 3, none⟩ (.int .i64 lst)).setCell ⟨O, 4, none⟩ (.bool true)) (((Chg.refl [O] w2).set (p := ⟨O, 3, none⟩) (.inl (by simp)) (.int .i64 lst)).set (p := ⟨O, 4, none⟩) (.inl (by simp)) (.bool true)) ⟨HV0.out.symm, HV1.out.symm, HV2.out.symm⟩ (.cells #[.slice A0 (toldS (seenOf tk j)).made.length p0, .slice A1 (toldS (seenOf tk j)).turned.length p1, .slice A2 (toldS (seenOf tk j)).gone.length p2, .int .i64 0, .bool false] 82)
                    unfold st5 at hF
                    generalize (((((((w2.setCell ⟨O, 3, none⟩ (.int .i64 lst)).setCell ⟨O, 4, none⟩ (.bool true)).setCell ⟨w.heap.size, 0, none⟩ (.slice D0 (lsOf (toldS (seenOf tk k)) 0).length r0)).setCell ⟨w.heap.size, 1, none⟩ (.slice D1 (lsOf (toldS (seenOf tk k)) 1).length r1)).setCell ⟨w.heap.size, 2, none⟩ (.slice D2 (lsOf (toldS (seenOf tk k)) 2).length r2)).setCell ⟨w.heap.size, 3, none⟩ (.int .i64 lst)).setCell ⟨w.heap.size, 4, none⟩ (.bool true)).alloc (.cells #[.slice A0 (toldS (seenOf tk j)).made.length p0, .slice A1 (toldS (seenOf tk j)).turned.length p1, .slice A2 (toldS (seenOf tk j)).gone.length p2, .int .i64 0, .bool false] 82) = WF at hF ⊢
                    obtain ⟨q1, q2, q3⟩ := hF
                    have s0 : WF.cell? ⟨w.heap.size, 0, none⟩ = some (.slice D0 (lsOf (toldS (seenOf tk k)) 0).length r0) := q3.cell 0
                    have s1 : WF.cell? ⟨w.heap.size, 1, none⟩ = some (.slice D1 (lsOf (toldS (seenOf tk k)) 1).length r1) := q3.cell 1
                    have s2 : WF.cell? ⟨w.heap.size, 2, none⟩ = some (.slice D2 (lsOf (toldS (seenOf tk k)) 2).length r2) := q3.cell 2
                    have s3 : WF.cell? ⟨w.heap.size, 3, none⟩ = some (.int .i64 lst) := q3.cell 3
                    have s4 : WF.cell? ⟨w.heap.size, 4, none⟩ = some (.bool true) := q3.cell 4
                    refine bodyPost_ret (v := .tuple #[.agg #[.slice D0 (lsOf (toldS (seenOf tk k)) 0).length r0, .slice D1 (lsOf (toldS (seenOf tk k)) 1).length r1, .slice D2 (lsOf (toldS (seenOf tk k)) 2).length r2, .int .i64 lst, .bool true], .int .i64 0]) ?_ rfl ?_
                    · simp [results, Tryz.results41, go_sem, s0, s1, s2, s3, s4]
                    · rw [HEND.out]
                      exact ⟨_, rfl, q1, q2⟩

                · have hnext : T ≤ j + f ∧ loopP frm clock most f (tk.take j) (tk.drop j) (toldS (seenOf tk j)) m = ans := ⟨hfl, by
                    have h1 := HSTEP.out
                    rw [if_neg (by omega)] at h1
                    exact h1.symm⟩
                  have HNEXT := Lib.hid hnext
                  clear hnext
                  go_wp2_with (go_at_call 104; refine htold.mono ?_; rintro e w2 ⟨c, rfl, hch, hb⟩; obtain ⟨A0, A1, A2, p0, p1, p2, cv, hh2, rfl, k0, k1, k2, hsl, hown⟩ := hch.form; have HQ := Lib.hid (HV.out.later hb); have HSL2 := Lib.hid hsl; have HOWN := Lib.hid hown; have HK0 := Lib.hid k0; have HK1 := Lib.hid k1; have HK2 := Lib.hid k2; clear hb hch htold hsl hown k0 k1 k2; obtain ⟨o0, o1, o2, o3, o4, of0, of1, of2, of3, of4, rc0, rc1, rc2, rc3, rc4, rf0, rf1, rf2, rf3, rf4, ol, rl, ne1, ne2⟩ := HQ.out.cells HV0.out HV1.out HV2.out)
                  have hq := SR.next2 (o := .cells #[.slice A0 (toldS (seenOf tk j)).made.length p0, .slice A1 (toldS (seenOf tk j)).turned.length p1, .slice A2 (toldS (seenOf tk j)).gone.length p2, .int .i64 clock, .bool false] 82) HQ.out HSL2.out (fun i y hi hy => ⟨Nat.le_trans HV.out.below.size (HOWN.out i y hy), fun hs3 => by have h1 := HV.out.hs_lt y hs3; have h2 := HOWN.out i y hy; omega⟩)
                  rw [HK0.out, HK1.out, HK2.out] at hq
                  unfold st5 at hq
                  have HQN := Lib.hid hq
                  clear hq
                  refine ⟨?_, by simp [intOf]; omega⟩
                  first | exact ⟨j, f, m, hs2, cv, hh2, hjT, rfl, by go_num, HQN, HNEXT⟩ | ((repeat apply Exists.intro); exact ⟨⟨j, f, m, hs2, cv, hh2, hjT, rfl, by go_num, HQN, HNEXT⟩, rfl⟩)

              · have hnext : T ≤ j + f ∧ loopP frm clock most f (tk.take j) (tk.drop j) (toldS (seenOf tk j)) m = ans := ⟨hfl, by
                  have h1 := HSTEP.out
                  rw [if_neg (by omega)] at h1
                  exact h1.symm⟩
                have HNEXT := Lib.hid hnext
                clear hnext
                go_wp2_with (go_at_call 104; refine htold.mono ?_; rintro e w2 ⟨c, rfl, hch, hb⟩; obtain ⟨A0, A1, A2, p0, p1, p2, cv, hh2, rfl, k0, k1, k2, hsl, hown⟩ := hch.form; have HQ := Lib.hid (HV.out.later hb); have HSL2 := Lib.hid hsl; have HOWN := Lib.hid hown; have HK0 := Lib.hid k0; have HK1 := Lib.hid k1; have HK2 := Lib.hid k2; clear hb hch htold hsl hown k0 k1 k2; obtain ⟨o0, o1, o2, o3, o4, of0, of1, of2, of3, of4, rc0, rc1, rc2, rc3, rc4, rf0, rf1, rf2, rf3, rf4, ol, rl, ne1, ne2⟩ := HQ.out.cells HV0.out HV1.out HV2.out)
                have hq := SR.next2 (o := .cells #[.slice A0 (toldS (seenOf tk j)).made.length p0, .slice A1 (toldS (seenOf tk j)).turned.length p1, .slice A2 (toldS (seenOf tk j)).gone.length p2, .int .i64 clock, .bool false] 82) HQ.out HSL2.out (fun i y hi hy => ⟨Nat.le_trans HV.out.below.size (HOWN.out i y hy), fun hs3 => by have h1 := HV.out.hs_lt y hs3; have h2 := HOWN.out i y hy; omega⟩)
                rw [HK0.out, HK1.out, HK2.out] at hq
                unfold st5 at hq
                have HQN := Lib.hid hq
                clear hq
                refine ⟨?_, by simp [intOf]; omega⟩
                first | exact ⟨j, f, m, hs2, cv, hh2, hjT, rfl, by go_num, HQN, HNEXT⟩ | ((repeat apply Exists.intro); exact ⟨⟨j, f, m, hs2, cv, hh2, hjT, rfl, by go_num, HQN, HNEXT⟩, rfl⟩)

          · have hkT : k = T := by omega
            subst hkT
            have hend : ans = ⟨toldS (seenOf tk k), clock, false, 0⟩ := by
              have h1 := HF.out.2
              rw [show tk.drop k = [] from List.drop_of_length_le (by rw [HT.out]; exact Nat.le_refl _)] at h1
              rw [← h1]
              cases f <;> rfl
            have HEND := Lib.hid hend
            clear hend
            obtain ⟨D0, r0, hv0, _, _⟩ := (HU.out.sO 0 (by decide)).form
            obtain ⟨D1, r1, hv1, _, _⟩ := (HU.out.sO 1 (by decide)).form
            obtain ⟨D2, r2, hv2, _, _⟩ := (HU.out.sO 2 (by decide)).form
            have HV0 := Lib.hid hv0
            have HV1 := Lib.hid hv1
            have HV2 := Lib.hid hv2
            obtain ⟨o0, o1, o2, o3, o4, of0, of1, of2, of3, of4, rc0, rc1, rc2, rc3, rc4, rf0, rf1, rf2, rf3, rf4, ol, rl, ne1, ne2⟩ := HU.out.cells hv0 hv1 hv2
            clear hv0 hv1 hv2
            go_wp2
            have hv0 := HV0.out
            have hv1 := HV1.out
            have hv2 := HV2.out
            have hF := SR.back (st := clock) (more := false) HU.out (W := wr.setCell ⟨O, 3, none⟩ (.int .i64 clock)) ((Chg.refl [O] wr).set (p := ⟨O, 3, none⟩) (.inl (by simp)) (.int .i64 clock)) ⟨hv0.symm, hv1.symm, hv2.symm⟩
            unfold st5 at hF
            generalize (((((wr.setCell ⟨O, 3, none⟩ (.int .i64 clock)).setCell ⟨w.heap.size, 0, none⟩ (.slice D0 (lsOf (toldS (seenOf tk k)) 0).length r0)).setCell ⟨w.heap.size, 1, none⟩ (.slice D1 (lsOf (toldS (seenOf tk k)) 1).length r1)).setCell ⟨w.heap.size, 2, none⟩ (.slice D2 (lsOf (toldS (seenOf tk k)) 2).length r2)).setCell ⟨w.heap.size, 3, none⟩ (.int .i64 clock)).setCell ⟨w.heap.size, 4, none⟩ (.bool false) = WF at hF ⊢
            obtain ⟨q1, q2, q3⟩ := hF
            have s0 : WF.cell? ⟨w.heap.size, 0, none⟩ = some (.slice D0 (lsOf (toldS (seenOf tk k)) 0).length r0) := q3.cell 0
            have s1 : WF.cell? ⟨w.heap.size, 1, none⟩ = some (.slice D1 (lsOf (toldS (seenOf tk k)) 1).length r1) := q3.cell 1
            have s2 : WF.cell? ⟨w.heap.size, 2, none⟩ = some (.slice D2 (lsOf (toldS (seenOf tk k)) 2).length r2) := q3.cell 2
            have s3 : WF.cell? ⟨w.heap.size, 3, none⟩ = some (.int .i64 clock) := q3.cell 3
            have s4 : WF.cell? ⟨w.heap.size, 4, none⟩ = some (.bool false) := q3.cell 4
            refine bodyPost_ret (v := .tuple #[.agg #[.slice D0 (lsOf (toldS (seenOf tk k)) 0).length r0, .slice D1 (lsOf (toldS (seenOf tk k)) 1).length r1, .slice D2 (lsOf (toldS (seenOf tk k)) 2).length r2, .int .i64 clock, .bool false], .int .i64 0]) ?_ rfl ?_
            · simp [results, Tryz.results41, go_sem, s0, s1, s2, s3, s4]
            · rw [HEND.out]
              exact ⟨_, rfl, q1, q2⟩

end Go.Proofs.YtmbibhphpjmboaaGreatDoor

namespace Go.Proofs.YtmbibhphpjmboaaGreatDoor

theorem told_nil : told [] = ⟨[], [], []⟩ := rfl
theorem loopP_all (frm clock most : Int) (hm : ¬ 0 < most) : ∀ (f : Nat) (done rest : List E4) (last : Int), rest.length ≤ f → loopP frm clock most f done rest (told done) last = ⟨told (done ++ rest), clock, false, 0⟩
  | 0, done, rest, last, h => by
    have : rest = [] := List.eq_nil_of_length_eq_zero (by omega)
    subst this
    simp [loopP]
  | f + 1, done, [], last, _ => by simp [loopP]
  | f + 1, done, x :: r, last, h => by
    have hlen : 1 ≤ ((x :: r).takeWhile (fun e => e.m == x.m)).length := by simp
    have hsplit : (x :: r).takeWhile (fun e => e.m == x.m) ++ (x :: r).drop ((x :: r).takeWhile (fun e => e.m == x.m)).length = x :: r := by
      have h1 := List.takeWhile_append_dropWhile (p := fun e => e.m == x.m) (l := x :: r)
      have h2 : (x :: r).drop ((x :: r).takeWhile (fun e => e.m == x.m)).length = (x :: r).dropWhile (fun e => e.m == x.m) := by
        conv => lhs; rw [← h1]
        conv => lhs; arg 1; rw [h1]
        rw [List.drop_left]
      rw [h2]
      exact h1
    rw [loopP]
    rw [if_neg (fun hh => hm hh.1), loopP_all frm clock most hm f _ _ _ (by rw [List.length_drop]; omega), List.append_assoc, hsplit]

/-- A Since without a bound, in reach. -/
theorem since_all (x : LogV) (kind frm clock most : Int) (hm : ¬ 0 < most) (hf : ¬ frm < x.floor) (hc : ¬ clock < frm) : x.since kind frm clock most = ⟨told (x.es.filter (takes kind frm clock)), clock, false, 0⟩ := by
  unfold LogV.since
  rw [if_neg (by omega)]
  exact loopP_all frm clock most hm _ [] _ _ (Nat.le_refl _)
end Go.Proofs.YtmbibhphpjmboaaGreatDoor
