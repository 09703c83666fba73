/-
  Words of the reference's Merge: what its two loops keep.
-/
import Derived.Test.YtnfabgbidkddhaaGreatDoorGCB
import Derived.Test.YtnfabgbidkddhaaGreatDoorSeqPartM
import Derived.Deep.QuietTactic
import Derived.Deep.CutBlock
import Derived.Deep.DeepCutAuto
namespace Go.Proofs.YtnfabgbidkddhaaGreatDoor
open Go.Shelf Go.RowKit Go.Lib Go.Sort
attribute [local go_sem ↓] Go.wp_at_zero Go.wp_at_succ

theorem Sl.belowR {w w' : World} {e : TypeId} {size n : Nat} {v : Value} {h : Option Nat} {xs : List Value} (hs : Sl w e size v h n xs) (hb : Below w.heap.size w w') : Sl w' e size v h n xs :=
  hs.chg (Chg.of_below hb []) (by simp)

theorem flatR_snoc (l : List Rg) (a b : Int) : flatR l ++ [.int .i64 a, .int .i64 b] = flatR (l ++ [(a, b)]) := by
  rw [flatR_append]
  rfl

/-- What the inner loop keeps: x in its box, the list that comes next, what was there. -/
structure ISt (w0 wr : World) (bx : Nat) (st : Ins) (o : Value) (h : Option Nat) : Prop where
  box : Blk wr bx 75 #[.int .i64 st.x.1, .int .i64 st.x.2]
  sl : Sl wr 75 2 o h st.next.length (flatR st.next)
  bel : Below bx w0 wr
  own : ∀ b, h = some b → bx < b

theorem ISt.push {w0 wr w3 w' : World} {bx : Nat} {st : Ins} {o o' : Value} {h h' : Option Nat} (s : ISt w0 wr bx st o h) (hb : Below wr.heap.size wr w3) (a b : Int) (hr : Sl w' 75 2 o' h' (st.next.length + 1) (flatR st.next ++ [.int .i64 a, .int .i64 b]))
    (hc : Chg h.toList w3 w') (ho : h' = h ∨ ∃ g, h' = some g ∧ w3.heap.size ≤ g) (p : Bool) : ISt w0 w' bx ⟨st.x, st.next ++ [(a, b)], p⟩ o' h' := by
  have hlt := s.box.lt
  have hbx : bx ∉ h.toList := by
    intro hm
    have := s.own bx (by simpa using hm)
    omega
  refine ⟨(s.box.below hb hlt).chg hc hbx, ?_, ?_, ?_⟩
  · have e := flatR_snoc st.next a b
    rw [e] at hr
    simpa using hr
  · refine s.bel.trans ?_
    refine (hb.mono (by omega)).trans ?_
    exact hc.below (by have := hb.size; omega) (fun k hk => by have := s.own k (by simpa using hk); omega)
  · intro b' hb'
    rcases ho with h1 | ⟨g, h1, h2⟩
    · exact s.own b' (by rw [← h1]; exact hb')
    · rw [hb'] at h1
      injection h1 with h1
      have := hb.size
      omega

theorem ISt.set {w0 wr : World} {bx : Nat} {st : Ins} {o : Value} {h : Option Nat} (s : ISt w0 wr bx st o h) (a b : Int) (c : Obj) (hw : bx ≤ wr.heap.size) :
    ISt w0 (((wr.setCell ⟨bx, 0, none⟩ (.int .i64 a)).setCell ⟨bx, 1, none⟩ (.int .i64 b)).alloc c) bx { st with x := (a, b) } o h := by
  have hne : h ≠ some bx := fun e => by have := s.own bx e; omega
  refine ⟨?_, ?_, ?_, s.own⟩
  · exact ((s.box.set 0 (.int .i64 a)).set 1 (.int .i64 b)).alloc c
  · exact ((s.sl.far hne _).far hne _).alloc c
  · exact ((s.bel.setCell (Nat.le_refl _) _).setCell (Nat.le_refl _) _).alloc (by simpa [World.setCell] using hw) c

/-- What the outer loop keeps. -/
structure OSt (w wr : World) (l : List Rg) (k : Nat) (o : Value) (h : Option Nat) (out : List Rg) : Prop where
  sl : Sl wr 75 2 o h out.length (flatR out)
  bel : RowKit.Below w.heap.size w wr
  fold : (l.take k).foldl rStep [] = out
  len : out.length ≤ k
  rng : ∀ x ∈ out, 1 ≤ x.1 ∧ x.1 ≤ 9223372036854775807 ∧ x.2 ≤ 9223372036854775807
theorem OSt.start {w : World} {l : List Rg} : OSt w w l 0 (.slice none 0 0) none [] := ⟨Sl.nil _ _ _, RowKit.Below.refl _ _, rfl, Nat.le_refl _, by simp⟩
theorem OSt.skip {w wr : World} {l : List Rg} {k : Nat} {o : Value} {h : Option Nat} {out : List Rg} (s : OSt w wr l k o h out) {hk : k < l.length} {a0 a b : Int} (hy : l[k] = (a0, b)) (ha : max a0 1 = a) (hb : b < a) (c : Obj) : OSt w (wr.alloc c) l (k + 1) o h out := by
  refine ⟨s.sl.alloc c, s.bel.alloc s.bel.size c, ?_, by have := s.len; omega, s.rng⟩
  rw [List.take_succ_eq_append_getElem hk, List.foldl_append, s.fold, hy]
  show rStep out (a0, b) = out
  unfold rStep
  simp only [ha]
  rw [if_pos hb]

theorem ins_step (st : Ins) (y : Rg) (l : List Rg) (k : Nat) (hk : k < l.length) (hy : l[k] = y) (z : Ins) (h : (l.take k).foldl iStep z = st) : (l.take (k + 1)).foldl iStep z = iStep st y := by
  rw [List.take_succ_eq_append_getElem hk, List.foldl_append, h, hy]
  rfl

/-- What the inner loop keeps, in plain lists. -/
structure JSt (out : List Rg) (j : Nat) (x : Rg) (st : Ins) : Prop where
  fold : (out.take j).foldl iStep ⟨x, [], false⟩ = st
  len : st.next.length + (if st.put then 0 else 1) ≤ j + 1
  x1 : 1 ≤ st.x.1 ∧ st.x.1 ≤ 9223372036854775807
  x2 : st.x.2 ≤ 9223372036854775807
  rng : ∀ y ∈ st.next, 1 ≤ y.1 ∧ y.1 ≤ 9223372036854775807 ∧ y.2 ≤ 9223372036854775807
theorem JSt.start {out : List Rg} {a b : Int} (h1 : 1 ≤ a) (h2 : a ≤ 9223372036854775807) (h3 : b ≤ 9223372036854775807) : JSt out 0 (a, b) ⟨(a, b), [], false⟩ :=
  ⟨rfl, by simp, ⟨h1, h2⟩, h3, by simp⟩
theorem JSt.step {out : List Rg} {j : Nat} {x y : Rg} {st st' : Ins} (s : JSt out j x st) {hj : j < out.length} (hy : out[j] = y) (he : iStep st y = st') (h1 : 1 ≤ y.1 ∧ y.1 ≤ 9223372036854775807 ∧ y.2 ≤ 9223372036854775807) :
    JSt out (j + 1) x st' := by
  have hf := ins_step st y out j hj hy _ s.fold
  have s1 := s.len
  obtain ⟨x1, x1'⟩ := s.x1
  have x2 := s.x2
  have hr := s.rng
  refine ⟨hf.trans he, ?_, ?_, ?_, ?_⟩
  all_goals
    rw [← he]
    unfold iStep
    split
    · first
        | exact s.x1
        | exact x2
        | (intro z hz; rcases List.mem_append.1 hz with hz | hz; exact hr z hz; rw [List.mem_singleton.1 hz]; exact h1)
        | (revert s1; cases st.put <;> simp <;> omega)
    · split
      · first
          | exact s.x1
          | exact x2
          | (revert s1; cases st.put <;> simp <;> omega)
          | (intro z hz; rcases List.mem_append.1 hz with hz | hz; (cases hp : st.put <;> rw [hp] at hz; (rcases List.mem_append.1 hz with hz | hz; exact hr z hz; rw [List.mem_singleton.1 hz]; exact ⟨x1, x1', x2⟩); exact hr z hz); rw [List.mem_singleton.1 hz]; exact h1)
      · first
          | exact hr
          | exact Nat.le_succ_of_le s1
          | (show 1 ≤ min st.x.1 y.1 ∧ min st.x.1 y.1 ≤ _; omega)
          | (show max st.x.2 y.2 ≤ _; omega)

theorem iEnd_len {out : List Rg} {j : Nat} {x : Rg} {st : Ins} (s : JSt out j x st) : (iEnd st).length ≤ j + 1 := by
  have := s.len
  unfold iEnd
  revert this
  cases st.put <;> simp
theorem iEnd_rng {out : List Rg} {j : Nat} {x : Rg} {st : Ins} (s : JSt out j x st) : ∀ y ∈ iEnd st, 1 ≤ y.1 ∧ y.1 ≤ 9223372036854775807 ∧ y.2 ≤ 9223372036854775807 := by
  unfold iEnd
  intro y hy
  split at hy
  · exact s.rng y hy
  · rcases List.mem_append.1 hy with h | h
    · exact s.rng y h
    · rw [List.mem_singleton.1 h]
      exact ⟨s.x1.1, s.x1.2, s.x2⟩
theorem OSt.next {w wo wr : World} {l : List Rg} {k j : Nat} {o o' : Value} {h h' : Option Nat} {out nxt : List Rg} (s : OSt w wo l k o h out) {hk : k < l.length} {x y : Rg} {st : Ins} (hy : l[k] = y) (hrs : rStep out y = iEnd st) (hj : JSt out j x st) (hjl : j ≤ out.length)
    (hn : iEnd st = nxt) (hsl : Sl wr 75 2 o' h' nxt.length (flatR nxt)) (hb : RowKit.Below wo.heap.size wo wr) : OSt w wr l (k + 1) o' h' nxt := by
  subst hn
  refine ⟨hsl, s.bel.trans (hb.mono s.bel.size), ?_, ?_, iEnd_rng hj⟩
  · rw [List.take_succ_eq_append_getElem hk, List.foldl_append, s.fold, hy]
    exact hrs
  · have := iEnd_len hj
    have := s.len
    omega

end Go.Proofs.YtnfabgbidkddhaaGreatDoor
