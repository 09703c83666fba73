/-
  Words of the text of a set: what the loops of the two Text functions keep.
-/
import Derived.Test.YtogmdfjgedekgaaDoorTextPlain
import Derived.Test.YtogmdfjgedekgaaDoorSeqRead
import Derived.Lib.AppendIntMem
namespace Go.Proofs.YtogmdfjgedekgaaDoor
open Go.RowKit Go.Lib
attribute [local go_sem ↓] Go.wp_at_zero Go.wp_at_succ

def intV (l : List Int) : List Value := l.map (Value.int .i64)
theorem intV_at (l : List Int) (k : Nat) (h : k < l.length) : (intV l)[k]? = some (.int .i64 l[k]) := by simp [intV, h]

/-- What the first loop keeps. -/
structure TSt (w wr : World) (l : List Int) (k : Nat) (o : Value) (h : Option Nat) (rows : List Rg) (last : Int) : Prop where
  sl : Sl wr 35 2 o h rows.length (flatR rows)
  bel : Below w.heap.size w wr
  own : ∀ b, h = some b → w.heap.size ≤ b
  fold : (l.take k).foldl tStep ([], 0) = (rows, last)
  len : rows.length ≤ k
  rng : ∀ x ∈ rows, x.1 ≤ 9223372036854775807 ∧ x.2 ≤ 9223372036854775807
  lst : 0 ≤ last ∧ last ≤ 9223372036854775807
  inv : ∀ s t, rows = s ++ [t] → t.2 = last

section
variable {w wr w' : World} {l : List Int} {k : Nat} {o v' : Value} {h h' : Option Nat} {rows s : List Rg} {t : Rg} {last x : Int}
theorem TSt.start (w : World) (l : List Int) : TSt w w l 0 (.slice none 0 0) none [] 0 := ⟨Sl.nil _ _ _, Below.refl _ _, by simp, rfl, Nat.le_refl _, by simp, by omega, by simp⟩
theorem TSt.next (q : TSt w wr l k o h rows last) {hk : k < l.length} (hx : l[k] = x) : (l.take (k + 1)).foldl tStep ([], 0) = tStep (rows, last) x := by
  rw [List.take_succ_eq_append_getElem hk, List.foldl_append, q.fold, hx]
  rfl
theorem TSt.skip (q : TSt w wr l k o h rows last) {hk : k < l.length} (hx : l[k] = x) (hle : x ≤ last) : TSt w wr l (k + 1) o h rows last :=
  ⟨q.sl, q.bel, q.own, by rw [q.next (hk := hk) hx, tStep_skip hle], by have := q.len; omega, q.rng, q.lst, q.inv⟩
theorem TSt.new (q : TSt w wr l k o h rows last) {hk : k < l.length} (hx : l[k] = x) (hle : ¬ x ≤ last) (hx2 : x ≤ 9223372036854775807) (hj : ∀ s t, rows = s ++ [t] → ¬ t.2 = x - 1)
    (hs : Sl w' 35 2 v' h' (rows.length + 1) (flatR rows ++ [.int .i64 x, .int .i64 x])) (hc : Chg h.toList wr w') (ho : h' = h ∨ ∃ g, h' = some g ∧ wr.heap.size ≤ g) :
    TSt w w' l (k + 1) v' h' (rows ++ [(x, x)]) x := by
  have hl := q.lst
  refine ⟨?_, q.bel.trans (hc.below q.bel.size fun i hi => q.own i (by simpa using hi)), ?_, ?_, ?_, ?_, by omega, ?_⟩
  · have e := flatR_snoc rows x x
    rw [e] at hs
    simpa using hs
  · intro b hb
    have := q.bel.size
    rcases ho with h1 | ⟨g, h1, h2⟩
    · exact q.own b (by rw [← h1]; exact hb)
    · rw [hb] at h1
      injection h1 with h1
      omega
  · rw [q.next (hk := hk) hx]
    rcases List.eq_nil_or_concat rows with rfl | ⟨s, t, rfl⟩
    · exact tStep_none hle
    · rw [List.concat_eq_append] at hj ⊢
      exact tStep_push hle (hj s t rfl)
  · have := q.len
    simp
    omega
  · intro y hy
    rcases List.mem_append.1 hy with hy | hy
    · exact q.rng y hy
    · rw [List.mem_singleton.1 hy]
      exact ⟨hx2, hx2⟩
  · intro s t he
    have := List.append_inj_right' he rfl
    injection this with this
    rw [← this]
theorem flatR_last (s : List Rg) (t : Rg) (y : Int) : (flatR (s ++ [t])).set (s.length * 2 + 1) (.int .i64 y) = flatR (s ++ [(t.1, y)]) := by
  have h := flatR_to (s ++ [t]) s.length (by simp) y
  rw [h]
  congr 1
  simp
theorem TSt.join {b off cap : Nat} (q : TSt w wr l k (.slice (some ⟨b, off, none⟩) (s.length + 1) cap) h (s ++ [t]) last) {hk : k < l.length} (hx : l[k] = x) (hle : ¬ x ≤ last) (hx2 : x ≤ 9223372036854775807) (hj : t.2 = x - 1) (hb : h = some b) :
    TSt w (wr.setCell ⟨b, off + s.length * 2 + 1, none⟩ (.int .i64 x)) l (k + 1) (.slice (some ⟨b, off, none⟩) (s.length + 1) cap) h (s ++ [(t.1, x)]) x := by
  have hl := q.lst
  have hsl := q.sl
  simp only [List.length_append, List.length_singleton] at hsl
  refine ⟨?_, q.bel.setCell (q.own b hb) _, q.own, ?_, ?_, ?_, by omega, ?_⟩
  · have h2 := hsl.store (s.length * 2 + 1) (.int .i64 x)
    rw [flatR_last] at h2
    simpa [Nat.add_assoc] using h2
  · rw [q.next (hk := hk) hx, tStep_join hle hj]
  · have := q.len
    simp at this ⊢
    omega
  · intro y hy
    rcases List.mem_append.1 hy with hy | hy
    · exact q.rng y (List.mem_append_left _ hy)
    · rw [List.mem_singleton.1 hy]
      exact ⟨(q.rng t (by simp)).1, hx2⟩
  · intro s' t' he
    have := List.append_inj_right' he rfl
    injection this with this
    rw [← this]
end

/-- Texts as values. -/
def strV (l : List (List UInt8)) : List Value := l.map fun x => .string ⟨x.toArray⟩
theorem strV_snoc (l : List (List UInt8)) (x : List UInt8) : strV l ++ [.string ⟨x.toArray⟩] = strV (l ++ [x]) := by simp [strV]
theorem strV_length (l : List (List UInt8)) : (strV l).length = l.length := by simp [strV]

/-- The table of tens stays. -/
abbrev Tens (w : World) : Prop := Lib.TabIs Tryd.prog w "internal/strconv.uint64pow10" .u64 Lib.pow10Tab
theorem Tens.below {w w' : World} (h : Tens w) (hb : Below w.heap.size w w') : Tens w' := (tabBelow_of_tabIs h) w' hb

/-- What the second loop of the program's Text keeps. -/
structure USt (wm wq : World) (rows : List Rg) (k : Nat) (o : Value) (h : Option Nat) : Prop where
  sl : Sl wq 9 1 o h k (strV ((rows.take k).map rowT))
  bel : Below wm.heap.size wm wq
  own : ∀ b, h = some b → wm.heap.size ≤ b
theorem USt.next {wm wq w3 w' : World} {rows : List Rg} {k : Nat} {o v' : Value} {h h' : Option Nat} (q : USt wm wq rows k o h) {hk : k < rows.length} {r : Rg} (hr : rows[k] = r) (hb : Below wq.heap.size wq w3) {y : List UInt8} (hy : y = rowT r)
    (hs : Sl w' 9 1 v' h' (k + 1) (strV ((rows.take k).map rowT) ++ [.string ⟨y.toArray⟩])) (hc : Chg h.toList w3 w') (ho : h' = h ∨ ∃ g, h' = some g ∧ w3.heap.size ≤ g) : USt wm w' rows (k + 1) v' h' := by
  refine ⟨?_, ?_, ?_⟩
  · rw [strV_snoc, hy, ← hr] at hs
    rw [List.take_succ_eq_append_getElem hk, List.map_append]
    exact hs
  · exact (q.bel.trans (hb.mono q.bel.size)).trans (hc.below (Nat.le_trans q.bel.size hb.size) fun i hi => q.own i (by simpa using hi))
  · intro b hb2
    have := q.bel.size
    have := hb.size
    rcases ho with h1 | ⟨g, h1, h2⟩
    · exact q.own b (by rw [← h1]; exact hb2)
    · rw [hb2] at h1
      injection h1 with h1
      omega

end Go.Proofs.YtogmdfjgedekgaaDoor
