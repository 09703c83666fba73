/-
  Plain laws of the text of numbers: the ranges that rising numbers make, the text of ranges. No condition.
  Words of the text of a set: what the loops of the two Text functions keep.
  The walk of seq.Text: numbers as a text; nothing that was there turns.
  The walk of the reference's Text: numbers as a text; nothing that was there turns.
-/
import Derived.Test.YtnfabgbidkddhaaGreatDoorGCB
import Derived.Test.YtnfabgbidkddhaaGreatDoorSeqDigitsM
import Derived.Test.YtnfabgbidkddhaaGreatDoorSeqReadM
import Derived.Lib.JoinLaws
import Derived.Lib.Join
import Derived.Lib.AppendIntMem
import Derived.Test.YtnfabgbidkddhaaGreatDoorShelf
import Derived.Deep.QuietTactic
import Derived.BigQuiet
import Derived.StillTailTactics
namespace Go.Proofs.YtnfabgbidkddhaaGreatDoor
open Go.Lib

/-- One number more. -/
def tStep (s : List Rg × Int) (n : Int) : List Rg × Int :=
  if n ≤ s.2 then s else match s.1.getLast? with
    | some t => if t.2 = n - 1 then (s.1.dropLast ++ [(t.1, n)], n) else (s.1 ++ [(n, n)], n)
    | none => ([(n, n)], n)
def tRows (l : List Int) : List Rg := (l.foldl tStep ([], 0)).1

def rowT (r : Rg) : List UInt8 := digN r.1 ++ (if r.1 < r.2 then 58 :: digN r.2 else [])
def textL (l : List Int) : List UInt8 := join ((tRows l).map rowT) [44]

theorem tStep_skip {s : List Rg} {last n : Int} (h : n ≤ last) : tStep (s, last) n = (s, last) := if_pos h
theorem tStep_none {last n : Int} (h : ¬ n ≤ last) : tStep ([], last) n = ([(n, n)], n) := by
  unfold tStep
  rw [if_neg h]
  rfl
theorem tStep_join {s : List Rg} {t : Rg} {last n : Int} (h : ¬ n ≤ last) (ht : t.2 = n - 1) : tStep (s ++ [t], last) n = (s ++ [(t.1, n)], n) := by
  unfold tStep
  rw [if_neg h]
  simp [ht]
theorem tStep_push {s : List Rg} {t : Rg} {last n : Int} (h : ¬ n ≤ last) (ht : ¬ t.2 = n - 1) : tStep (s ++ [t], last) n = (s ++ [t] ++ [(n, n)], n) := by
  unfold tStep
  rw [if_neg h]
  simp [ht]

theorem join_two (a b : List UInt8) (l : List (List UInt8)) (sep : List UInt8) : join (a :: b :: l) sep = a ++ (sep ++ join (b :: l) sep) := by
  rw [join_cons, join_cons]
  simp [joinTail]
theorem join_snoc (l : List (List UInt8)) (x sep : List UInt8) : join (l ++ [x]) sep = if l = [] then x else join l sep ++ sep ++ x := by
  induction l with
  | nil => simp [join_one]
  | cons a l ih =>
    cases l with
    | nil => simp [join_two, join_one]
    | cons b l =>
      simp only [List.cons_append] at ih ⊢
      rw [join_two, ih, join_two]
      simp

theorem rowT_len (r : Rg) (h1 : r.1 ≤ 9223372036854775807) (h2 : r.2 ≤ 9223372036854775807) : (rowT r).length ≤ 43 := by
  unfold rowT
  have a := digN_le r.1 h1
  have b := digN_le r.2 h2
  rw [List.length_append]
  split
  · simp
    omega
  · simp
    omega

theorem join_len (l : List (List UInt8)) (h : ∀ x ∈ l, x.length ≤ 43) : (join l [44]).length ≤ 44 * l.length := by
  induction l with
  | nil => simp [join_nil]
  | cons a l ih =>
    have ha := h a List.mem_cons_self
    have ih := ih fun x hx => h x (List.mem_cons_of_mem _ hx)
    cases l with
    | nil =>
      rw [join_one]
      simp
      omega
    | cons b l =>
      rw [join_two]
      simp only [List.length_append, List.length_cons, List.length_nil] at ih ⊢
      omega

end Go.Proofs.YtnfabgbidkddhaaGreatDoor

namespace Go.Proofs.YtnfabgbidkddhaaGreatDoor
open Go.RowKit Go.Lib
attribute [local go_sem ↓] Go.wp_at_zero Go.wp_at_succ

def intV (l : List Int) : List Value := l.map (Value.int .i64)
theorem intV_at (l : List Int) (k : Nat) (h : k < l.length) : (intV l)[k]? = some (.int .i64 l[k]) := by simp [intV, h]

/-- What the first loop keeps. -/
structure TSt (w wr : World) (l : List Int) (k : Nat) (o : Value) (h : Option Nat) (rows : List Rg) (last : Int) : Prop where
  sl : Sl wr 75 2 o h rows.length (flatR rows)
  bel : Below w.heap.size w wr
  own : ∀ b, h = some b → w.heap.size ≤ b
  fold : (l.take k).foldl tStep ([], 0) = (rows, last)
  len : rows.length ≤ k
  rng : ∀ x ∈ rows, x.1 ≤ 9223372036854775807 ∧ x.2 ≤ 9223372036854775807
  lst : 0 ≤ last ∧ last ≤ 9223372036854775807
  inv : ∀ s t, rows = s ++ [t] → t.2 = last

section
variable {w wr w' : World} {l : List Int} {k : Nat} {o v' : Value} {h h' : Option Nat} {rows s : List Rg} {t : Rg} {last x : Int}
theorem TSt.start (w : World) (l : List Int) : TSt w w l 0 (.slice none 0 0) none [] 0 := ⟨Sl.nil _ _ _, Below.refl _ _, by simp, rfl, Nat.le_refl _, by simp, by omega, by simp⟩
theorem TSt.next (q : TSt w wr l k o h rows last) {hk : k < l.length} (hx : l[k] = x) : (l.take (k + 1)).foldl tStep ([], 0) = tStep (rows, last) x := by
  rw [List.take_succ_eq_append_getElem hk, List.foldl_append, q.fold, hx]
  rfl
theorem TSt.skip (q : TSt w wr l k o h rows last) {hk : k < l.length} (hx : l[k] = x) (hle : x ≤ last) : TSt w wr l (k + 1) o h rows last :=
  ⟨q.sl, q.bel, q.own, by rw [q.next (hk := hk) hx, tStep_skip hle], by have := q.len; omega, q.rng, q.lst, q.inv⟩
theorem TSt.new (q : TSt w wr l k o h rows last) {hk : k < l.length} (hx : l[k] = x) (hle : ¬ x ≤ last) (hx2 : x ≤ 9223372036854775807) (hj : ∀ s t, rows = s ++ [t] → ¬ t.2 = x - 1)
    (hs : Sl w' 75 2 v' h' (rows.length + 1) (flatR rows ++ [.int .i64 x, .int .i64 x])) (hc : Chg h.toList wr w') (ho : h' = h ∨ ∃ g, h' = some g ∧ wr.heap.size ≤ g) :
    TSt w w' l (k + 1) v' h' (rows ++ [(x, x)]) x := by
  have hl := q.lst
  refine ⟨?_, q.bel.trans (hc.below q.bel.size fun i hi => q.own i (by simpa using hi)), ?_, ?_, ?_, ?_, by omega, ?_⟩
  · have e := flatR_snoc rows x x
    rw [e] at hs
    simpa using hs
  · intro b hb
    have := q.bel.size
    rcases ho with h1 | ⟨g, h1, h2⟩
    · exact q.own b (by rw [← h1]; exact hb)
    · rw [hb] at h1
      injection h1 with h1
      omega
  · rw [q.next (hk := hk) hx]
    rcases List.eq_nil_or_concat rows with rfl | ⟨s, t, rfl⟩
    · exact tStep_none hle
    · rw [List.concat_eq_append] at hj ⊢
      exact tStep_push hle (hj s t rfl)
  · have := q.len
    simp
    omega
  · intro y hy
    rcases List.mem_append.1 hy with hy | hy
    · exact q.rng y hy
    · rw [List.mem_singleton.1 hy]
      exact ⟨hx2, hx2⟩
  · intro s t he
    have := List.append_inj_right' he rfl
    injection this with this
    rw [← this]
theorem flatR_last (s : List Rg) (t : Rg) (y : Int) : (flatR (s ++ [t])).set (s.length * 2 + 1) (.int .i64 y) = flatR (s ++ [(t.1, y)]) := by
  have h := flatR_to (s ++ [t]) s.length (by simp) y
  rw [h]
  congr 1
  simp
theorem TSt.join {b off cap : Nat} (q : TSt w wr l k (.slice (some ⟨b, off, none⟩) (s.length + 1) cap) h (s ++ [t]) last) {hk : k < l.length} (hx : l[k] = x) (hle : ¬ x ≤ last) (hx2 : x ≤ 9223372036854775807) (hj : t.2 = x - 1) (hb : h = some b) :
    TSt w (wr.setCell ⟨b, off + s.length * 2 + 1, none⟩ (.int .i64 x)) l (k + 1) (.slice (some ⟨b, off, none⟩) (s.length + 1) cap) h (s ++ [(t.1, x)]) x := by
  have hl := q.lst
  have hsl := q.sl
  simp only [List.length_append, List.length_singleton] at hsl
  refine ⟨?_, q.bel.setCell (q.own b hb) _, q.own, ?_, ?_, ?_, by omega, ?_⟩
  · have h2 := hsl.store (s.length * 2 + 1) (.int .i64 x)
    rw [flatR_last] at h2
    simpa [Nat.add_assoc] using h2
  · rw [q.next (hk := hk) hx, tStep_join hle hj]
  · have := q.len
    simp at this ⊢
    omega
  · intro y hy
    rcases List.mem_append.1 hy with hy | hy
    · exact q.rng y (List.mem_append_left _ hy)
    · rw [List.mem_singleton.1 hy]
      exact ⟨(q.rng t (by simp)).1, hx2⟩
  · intro s' t' he
    have := List.append_inj_right' he rfl
    injection this with this
    rw [← this]
end

/-- Texts as values. -/
def strV (l : List (List UInt8)) : List Value := l.map fun x => .string ⟨x.toArray⟩
theorem strV_snoc (l : List (List UInt8)) (x : List UInt8) : strV l ++ [.string ⟨x.toArray⟩] = strV (l ++ [x]) := by simp [strV]
theorem strV_length (l : List (List UInt8)) : (strV l).length = l.length := by simp [strV]

/-- The table of tens stays. -/
abbrev Tens (w : World) : Prop := Lib.TabIs Tryz.prog w "internal/strconv.uint64pow10" .u64 Lib.pow10Tab
theorem Tens.below {w w' : World} (h : Tens w) (hb : Below w.heap.size w w') : Tens w' := (tabBelow_of_tabIs h) w' hb

/-- What the second loop of the program's Text keeps. -/
structure USt (wm wq : World) (rows : List Rg) (k : Nat) (o : Value) (h : Option Nat) : Prop where
  sl : Sl wq 9 1 o h k (strV ((rows.take k).map rowT))
  bel : Below wm.heap.size wm wq
  own : ∀ b, h = some b → wm.heap.size ≤ b
theorem USt.next {wm wq w3 w' : World} {rows : List Rg} {k : Nat} {o v' : Value} {h h' : Option Nat} (q : USt wm wq rows k o h) {hk : k < rows.length} {r : Rg} (hr : rows[k] = r) (hb : Below wq.heap.size wq w3) {y : List UInt8} (hy : y = rowT r)
    (hs : Sl w' 9 1 v' h' (k + 1) (strV ((rows.take k).map rowT) ++ [.string ⟨y.toArray⟩])) (hc : Chg h.toList w3 w') (ho : h' = h ∨ ∃ g, h' = some g ∧ w3.heap.size ≤ g) : USt wm w' rows (k + 1) v' h' := by
  refine ⟨?_, ?_, ?_⟩
  · rw [strV_snoc, hy, ← hr] at hs
    rw [List.take_succ_eq_append_getElem hk, List.map_append]
    exact hs
  · exact (q.bel.trans (hb.mono q.bel.size)).trans (hc.below (Nat.le_trans q.bel.size hb.size) fun i hi => q.own i (by simpa using hi))
  · intro b hb2
    have := q.bel.size
    have := hb.size
    rcases ho with h1 | ⟨g, h1, h2⟩
    · exact q.own b (by rw [← h1]; exact hb2)
    · rw [hb2] at h1
      injection h1 with h1
      omega

end Go.Proofs.YtnfabgbidkddhaaGreatDoor

namespace Go.Proofs.YtnfabgbidkddhaaGreatDoor
open Go.RowKit Go.Lib
attribute [local go_sem ↓] Go.wp_at_zero Go.wp_at_succ

theorem Tryz.infoStr : (Tryz.prog.info? 9).map (fun i => (i.zero, i.size, i.bytes)) = some (some (.string ⟨#[]⟩), 1, 16) := by kernel_rfl

end Go.Proofs.YtnfabgbidkddhaaGreatDoor

namespace Go.Proofs.YtnfabgbidkddhaaGreatDoor
open Go.RowKit Go.Lib
attribute [local go_sem ↓] Go.wp_at_zero Go.wp_at_succ

theorem below_of_drewN' {w w' : World} {n : Nat} (h : Below (w.drewN n).heap.size (w.drewN n) w') : Below w.heap.size w w' := ⟨h.os, h.tape, h.output, h.size, h.block⟩

/-- What the second loop of the reference's Text keeps. -/
structure VSt (wm wq : World) (rows : List Rg) (k : Nat) (o : List UInt8) : Prop where
  out : o = join ((rows.take k).map rowT) [44]
  bel : Below wm.heap.size wm wq
  len : o.length ≤ 44 * k
theorem VSt.next {wm wq w' : World} {rows : List Rg} {k : Nat} {o o' : List UInt8} (q : VSt wm wq rows k o) (hk : k < rows.length) {r : Rg} (hr : rows[k] = r) (hb : Below wq.heap.size wq w') (hl : (rowT r).length ≤ 43)
    (ho : o' = (if k = 0 then rowT r else o ++ 44 :: rowT r)) : VSt wm w' rows (k + 1) o' := by
  refine ⟨?_, q.bel.trans (hb.mono q.bel.size), ?_⟩
  · rw [List.take_succ_eq_append_getElem hk, List.map_append, List.map_cons, List.map_nil, join_snoc, hr, ho, q.out]
    by_cases h0 : k = 0
    · subst h0
      simp
    · rw [if_neg h0, if_neg]
      · simp
      · intro h
        have h1 := congrArg List.length h
        rw [List.length_map, List.length_take, Nat.min_eq_left (by omega)] at h1
        exact h0 h1
  · have := q.len
    rw [ho]
    split
    · omega
    · simp
      omega

set_option maxRecDepth 100000 in
set_option maxHeartbeats 8000000 in
theorem refText_any (w : World) (v : Value) (n : Nat) (l : List Int) (hn : l.length = n) (hr : RdS w [] 1 v n (intV l)) (hnb : n ≤ 1000) (hb : ∀ x ∈ l, x ≤ 9223372036854775807) :
    Calls Tryz.prog 18 #[v] w fun e w' => e = .returned (.string ⟨(textL l).toArray⟩) ∧ Below w.heap.size w w' := by
  obtain ⟨i0, hi, hz0, hz1, hz2⟩ := info_parts Tryz.infoRange
  obtain ⟨A, cap, rfl, _, hcap⟩ := hr.form
  have HR := Lib.hid hr
  have HN := Lib.hid hn
  have HBB := Lib.hid hb
  obtain ⟨ans, hans⟩ : ∃ ans, textL l = ans := ⟨_, rfl⟩
  rw [hans]
  have HANS := Lib.hid hans
  clear hr hn hb hans
  go_enter Tryz.func18, Tryz.ntmps18
  go_wp2_with fail
  go_loopw [3, 4, 5] (fun o lv iv wr => ∃ (k : Nat) (h : Option Nat) (rows : List Rg) (last : Int), k ≤ n ∧ iv = .int .i64 k ∧ lv = .int .i64 last ∧ Hid (TSt w wr l k o h rows last)) (fun _ _ iv _ => n - (intOf iv).toNat)
  case atStart => exact ⟨0, none, [], 0, Nat.zero_le _, rfl, rfl, Lib.hid (TSt.start w l)⟩
  case round =>
    obtain ⟨k, h, rows, last, hk, rfl, rfl, HQ⟩ := hrel
    by_cases hlt : k < n
    · have hkl : k < l.length := by rw [HN.out]; exact hlt
      obtain ⟨ba, offa, ca', hva, _, _, hbla, _, hca⟩ := HR.out.at_ (by omega)
      injection hva with hva1 hva2 hva3
      subst hva1
      clear hva2 hva3
      have d0 : wr.cell? ⟨ba, offa + k, none⟩ = some (.int .i64 l[k]) := ((HQ.out.bel.cell (p := ⟨ba, offa + k, none⟩) hbla).trans (hca _ (by omega))).trans (intV_at l k hkl)
      have hxb := HBB.out l[k] (List.getElem_mem hkl)
      obtain ⟨x, hx⟩ : ∃ x, l[k] = x := ⟨_, rfl⟩
      rw [hx] at d0 hxb
      have HX := Lib.hid hx
      obtain ⟨hl0, hl1⟩ := HQ.out.lst
      clear hca hx
      by_cases hle : x ≤ last
      · have HQ2 := Lib.hid (HQ.out.skip (hk := hkl) HX.out hle)
        go_wp2
        refine ⟨?_, by simp [intOf]; omega⟩
        first | exact ⟨k + 1, _, _, _, by omega, by go_num, rfl, HQ2⟩ | ((repeat apply Exists.intro); exact ⟨⟨k + 1, _, _, _, by omega, by go_num, rfl, HQ2⟩, rfl⟩)
      · have HNEW := fun v' h' w' hj hs hc ho => HQ.out.new (hk := hkl) (v' := v') (h' := h') (w' := w') HX.out hle hxb hj hs hc ho
        have hlen := HQ.out.len
        rcases List.eq_nil_or_concat rows with rfl | ⟨s, t, rfl⟩
        · have hsl : Sl wr 75 2 u3 h 0 (flatR []) := HQ.out.sl
          obtain ⟨A3, cap3, rfl, _, _⟩ := hsl.form
          have HSL := Lib.hid hsl
          clear hsl
          have HSD := Lib.hid (fun c => Sl.heap (w' := (wr.alloc c).drew) (HSL.out.alloc c) rfl)
          go_wp2_with fail
          go_region_law (refine step_append_sl _ (by rfl) (.tmp 42) (.tmp 52) _ (by rfl) Tryz.underlying55 hi hz0 hz1 hz2 rfl (by omega) (HSD.out _) (by simp [Act.eval]) wr.heap.size #[.int .i64 x, .int .i64 x] (e' := 75) (fr := (0, 0)) (heap_alloc_new wr _) 1 1 (by simp [Act.eval]) (by rfl) (by simp [Value.oneCell']) (by unfold maxLen; omega) (by omega) ?_; intro v' h' w' r1 r2 r3)
          all_goals
            have r2' : Chg h.toList (wr.alloc (.cells #[.int .i64 x, .int .i64 x] 75)) w' := ⟨r2.os, r2.tape, r2.output, r2.size, r2.block⟩
            have hc : Chg h.toList wr w' := ⟨r2'.os, r2'.tape, r2'.output, Nat.le_trans (by simp) r2'.size, fun i hi hn => (r2'.block i (by simp; omega) hn).trans (Below.heap_alloc wr _ i hi)⟩
            have hbw : Below w.heap.size wr w' := ⟨hc.os, hc.tape, hc.output, hc.size, fun i hi => hc.block i (Nat.lt_of_lt_of_le hi HQ.out.bel.size) (fun hm => by have := HQ.out.own i (by simpa using hm); omega)⟩
            have d1 : w'.cell? ⟨ba, offa + k, none⟩ = some (.int .i64 x) := (hbw.cell (p := ⟨ba, offa + k, none⟩) hbla).trans d0
            have ho : h' = h ∨ ∃ g, h' = some g ∧ wr.heap.size ≤ g := r3.imp id fun ⟨g, h1, h2⟩ => ⟨g, h1, Nat.le_trans (by simp) (show (wr.alloc (.cells #[.int .i64 x, .int .i64 x] 75)).heap.size ≤ g from h2)⟩
            have HQ2 := Lib.hid (HNEW v' h' w' (by simp) (by simpa using r1) hc ho)
            clear r1 r2 r3 r2' ho hc hbw HNEW
            go_wp2
            refine ⟨?_, by simp [intOf]; omega⟩
            first | exact ⟨k + 1, _, _, _, by omega, by go_num, rfl, HQ2⟩ | ((repeat apply Exists.intro); exact ⟨⟨k + 1, _, _, _, by omega, by go_num, rfl, HQ2⟩, rfl⟩)
        · rw [List.concat_eq_append] at HQ HNEW hlen
          have hsl := HQ.out.sl
          obtain ⟨p, hp⟩ : ∃ p, s.length = p := ⟨_, rfl⟩
          have hl1' : (s ++ [t]).length = p + 1 := by simp [hp]
          rw [hl1'] at hsl hlen HNEW
          obtain ⟨b, off, cap3, hh, rfl, _, _, hblt, hat⟩ := hsl.at_ (by omega)
          have c1 : wr.cell? ⟨b, off + p * 2 + 1, none⟩ = some (.int .i64 t.2) := by
            have h1 := (hat (p * 2 + 1) (by omega)).1
            have h2 := (flatR_at (s ++ [t]) p (by omega)).2
            have h3 : (s ++ [t])[p]'(by omega) = t := by
              subst hp
              simp
            rw [h3] at h2
            exact h1.trans h2
          have f1 : wr.frozen? ⟨b, off + p * 2 + 1, none⟩ = false := (hat (p * 2 + 1) (by omega)).2
          have HSL := Lib.hid hsl
          have HP := Lib.hid hp
          have HH := Lib.hid hh
          have hj0 : (0 : Int) ≤ (p : Int) := by omega
          clear hsl hat hp hl1' hh
          have hinv : t.2 = last := HQ.out.inv s t rfl
          have hne : ba ≠ b := by have := HQ.out.own b HH.out; omega
          by_cases hj : x = last + 1
          · have HQ2 : Hid (TSt w (wr.setCell ⟨b, off + p * 2 + 1, none⟩ (.int .i64 x)) l (k + 1) (.slice (some ⟨b, off, none⟩) (p + 1) cap3) h (s ++ [(t.1, x)]) x) := by
              have hpp := HP.out
              subst hpp
              exact Lib.hid (HQ.out.join (hk := hkl) HX.out hle hxb (by omega) HH.out)
            have hjb : (x == last + 1) = true := by simpa using hj
            have d1 : (wr.setCell ⟨b, off + p * 2 + 1, none⟩ (.int .i64 x)).cell? ⟨ba, offa + k, none⟩ = some (.int .i64 x) := (World.cell?_setCell_other wr _ _ _ (fun e => by injection e with e; exact hne e.symm)).trans d0
            clear hj HNEW hinv hne
            generalize t.2 = t2 at c1
            go_wp2
            refine ⟨?_, by simp [intOf]; omega⟩
            first | exact ⟨k + 1, _, _, _, by omega, by go_num, rfl, HQ2⟩ | ((repeat apply Exists.intro); exact ⟨⟨k + 1, _, _, _, by omega, by go_num, rfl, HQ2⟩, rfl⟩)
          · have hjb : (x == last + 1) = false := by simpa using hj
            have HJ := Lib.hid (show ∀ s' t', s ++ [t] = s' ++ [t'] → ¬ t'.2 = x - 1 from fun s' t' he => by
              have := List.append_inj_right' he rfl
              injection this with this
              rw [← this]
              omega)
            clear hj hinv hne c1 f1
            have HSD := Lib.hid (fun c => Sl.heap (w' := (wr.alloc c).drew) (HSL.out.alloc c) rfl)
            go_wp2_with fail
            go_region_law (refine step_append_sl _ (by rfl) (.tmp 42) (.tmp 52) _ (by rfl) Tryz.underlying55 hi hz0 hz1 hz2 rfl (by omega) (HSD.out _) (by simp [Act.eval]) wr.heap.size #[.int .i64 x, .int .i64 x] (e' := 75) (fr := (0, 0)) (heap_alloc_new wr _) 1 1 (by simp [Act.eval]) (by rfl) (by simp [Value.oneCell']) (by unfold maxLen; omega) (by omega) ?_; intro v' h' w' r1 r2 r3)
            all_goals
              have r2' : Chg h.toList (wr.alloc (.cells #[.int .i64 x, .int .i64 x] 75)) w' := ⟨r2.os, r2.tape, r2.output, r2.size, r2.block⟩
              have hc : Chg h.toList wr w' := ⟨r2'.os, r2'.tape, r2'.output, Nat.le_trans (by simp) r2'.size, fun i hi hn => (r2'.block i (by simp; omega) hn).trans (Below.heap_alloc wr _ i hi)⟩
              have hbw : Below w.heap.size wr w' := ⟨hc.os, hc.tape, hc.output, hc.size, fun i hi => hc.block i (Nat.lt_of_lt_of_le hi HQ.out.bel.size) (fun hm => by have := HQ.out.own i (by simpa using hm); omega)⟩
              have d1 : w'.cell? ⟨ba, offa + k, none⟩ = some (.int .i64 x) := (hbw.cell (p := ⟨ba, offa + k, none⟩) hbla).trans d0
              have ho : h' = h ∨ ∃ g, h' = some g ∧ wr.heap.size ≤ g := r3.imp id fun ⟨g, h1, h2⟩ => ⟨g, h1, Nat.le_trans (by simp) (show (wr.alloc (.cells #[.int .i64 x, .int .i64 x] 75)).heap.size ≤ g from h2)⟩
              have HQ2 := Lib.hid (HNEW v' h' w' HJ.out (by simpa using r1) hc ho)
              clear r1 r2 r3 r2' ho hc hbw HNEW
              go_wp2
              refine ⟨?_, by simp [intOf]; omega⟩
              first | exact ⟨k + 1, _, _, _, by omega, by go_num, rfl, HQ2⟩ | ((repeat apply Exists.intro); exact ⟨⟨k + 1, _, _, _, by omega, by go_num, rfl, HQ2⟩, rfl⟩)
    · have hkn : k = n := by omega
      subst hkn
      have hrows : tRows l = rows := by
        have hf := HQ.out.fold
        rw [List.take_of_length_le (by rw [HN.out]; exact Nat.le_refl _)] at hf
        unfold tRows
        rw [hf]
      have HANS2 := Lib.hid (show join (rows.map rowT) [44] = ans by rw [← hrows]; exact HANS.out)
      clear hrows HANS
      obtain ⟨m, hm⟩ : ∃ m, rows.length = m := ⟨_, rfl⟩
      have hsl := HQ.out.sl
      rw [hm] at hsl
      obtain ⟨A3, cap3, rfl, _, hcap3⟩ := hsl.form
      have hmk : m ≤ 1000 := by have := HQ.out.len; omega
      have HSL := Lib.hid hsl
      have HM := Lib.hid hm
      clear hsl hm
      obtain ⟨wm, rfl⟩ : ∃ wm : World, wm = wr := ⟨_, rfl⟩
      have hap : ∀ a b : List UInt8, ByteArray.mk a.toArray ++ ByteArray.mk b.toArray = ByteArray.mk (a ++ b).toArray := fun a b => ByteArray.mk_append_mk a b
      go_wp2_with fail
      go_loopw [6, 7] (fun sv iv wq => ∃ (j : Nat) (o : List UInt8), j ≤ m ∧ iv = .int .i64 j ∧ sv = .string ⟨o.toArray⟩ ∧ Hid (VSt wm wq rows j o)) (fun _ iv _ => m - (intOf iv).toNat)
      case atStart => exact ⟨0, [], Nat.zero_le _, rfl, rfl, Lib.hid ⟨rfl, Below.refl _ _, Nat.le_refl _⟩⟩
      case round =>
        obtain ⟨j, o, hj, rfl, rfl, HV⟩ := hrel
        by_cases hjm : j < m
        · have hjl : j < rows.length := by rw [HM.out]; exact hjm
          obtain ⟨bo, offo, co', hvo, _, _, hblo, _, hco⟩ := (HSL.out.reads [] (by simp)).at_ (by omega)
          injection hvo with hvo1 hvo2 hvo3
          subst hvo1
          clear hvo2 hvo3
          obtain ⟨g0, g1⟩ := flatR_at rows j hjl
          have e0 : wr.cell? ⟨bo, offo + j * 2, none⟩ = some (.int .i64 rows[j].1) := ((HV.out.bel.cell (p := ⟨bo, offo + j * 2, none⟩) hblo).trans (hco _ (by omega))).trans g0
          have e1 : wr.cell? ⟨bo, offo + j * 2 + 1, none⟩ = some (.int .i64 rows[j].2) := ((HV.out.bel.cell (p := ⟨bo, offo + j * 2 + 1, none⟩) hblo).trans (hco (j * 2 + 1) (by omega))).trans g1
          obtain ⟨ra, rb⟩ := HQ.out.rng rows[j] (List.getElem_mem hjl)
          obtain ⟨r, hrr⟩ : ∃ r, rows[j] = r := ⟨_, rfl⟩
          rw [hrr] at e0 e1 ra rb
          have HRR := Lib.hid hrr
          clear hco g0 g1 hrr
          have hbl2 : bo < wr.heap.size := Nat.lt_of_lt_of_le hblo HV.out.bel.size
          have da := fun W => refDigits_any r.1 ra W
          have db := fun W => refDigits_any r.2 rb W
          have la := digN_le r.1 ra
          have lb := digN_le r.2 rb
          have lo := HV.out.len
          have hrt : rowT r = digN r.1 ++ (if r.1 < r.2 then 58 :: digN r.2 else []) := rfl
          have e0w := fun w3 (hb3 : Below wr.heap.size wr w3) => (hb3.cell (p := ⟨bo, offo + j * 2, none⟩) hbl2).trans e0
          have e1w := fun w3 (hb3 : Below wr.heap.size wr w3) => (hb3.cell (p := ⟨bo, offo + j * 2 + 1, none⟩) hbl2).trans e1
          obtain ⟨x, y⟩ := r
          simp only at da db la lb hrt e0 e1 ra rb e0w e1w
          by_cases hlt2 : x < y
          · by_cases hj0 : j = 0
            · obtain rfl : o = [] := by have := HV.out.len; rw [hj0] at this; exact List.eq_nil_of_length_eq_zero (by omega)
              have hdj : decide (0 < j) = false := decide_eq_false (by omega)
              have HJ0 := Lib.hid hj0
              clear hj0
              have hy : digN x ++ (58 :: digN y) = rowT (x, y) := by rw [hrt, if_pos hlt2]
              clear hrt
              generalize digN x = D at da la hy
              generalize digN y = E at db lb hy
              have HY := Lib.hid hy
              clear hy
              go_wp2_with (first
                | (go_at_call 25; (with_reducible refine (da _).mono ?_); rintro e w3 ⟨rfl, hb3⟩; have x0 := e0w w3 hb3; have x1 := e1w w3 hb3; have HB3 := Lib.hid hb3; clear hb3 da)
                | fail)
              go_quiet (fail)
              go_wp2_with (first
                | (go_at_call 25; (with_reducible refine (db _).mono ?_); rintro e w4 ⟨rfl, hb4⟩; have HB4 := Lib.hid (HB3.out.trans ((below_of_drewN' hb4).mono HB3.out.size)); clear hb4 db)
                | fail)
              have HVN := Lib.hid (HV.out.next hjl HRR.out HB4.out (rowT_len _ ra rb) (o' := D ++ 58 :: E) (by rw [if_pos HJ0.out, ← HY.out]))
              refine ⟨?_, by simp [intOf]; omega⟩
              first | exact ⟨j + 1, _, by omega, by go_num, rfl, HVN⟩ | ((repeat apply Exists.intro); exact ⟨⟨j + 1, _, by omega, by go_num, rfl, HVN⟩, rfl⟩)
            · have hj1 : (0 : Int) < (j : Int) := by omega
              have hdj : decide (0 < j) = true := decide_eq_true (by omega)
              have hy : digN x ++ (58 :: digN y) = rowT (x, y) := by rw [hrt, if_pos hlt2]
              clear hrt
              generalize digN x = D at da la hy
              generalize digN y = E at db lb hy
              have HY := Lib.hid hy
              clear hy
              go_wp2_with (first
                | (go_at_call 25; (with_reducible refine (da _).mono ?_); rintro e w3 ⟨rfl, hb3⟩; have x0 := e0w w3 hb3; have x1 := e1w w3 hb3; have HB3 := Lib.hid hb3; clear hb3 da)
                | fail)
              go_quiet (fail)
              go_wp2_with (first
                | (go_at_call 25; (with_reducible refine (db _).mono ?_); rintro e w4 ⟨rfl, hb4⟩; have HB4 := Lib.hid (HB3.out.trans ((below_of_drewN' hb4).mono HB3.out.size)); clear hb4 db)
                | fail)
              have HVN := Lib.hid (HV.out.next hjl HRR.out HB4.out (rowT_len _ ra rb) (o' := o ++ 44 :: (D ++ 58 :: E)) (by rw [if_neg hj0, ← HY.out]))
              refine ⟨?_, by simp [intOf]; omega⟩
              first | exact ⟨j + 1, _, by omega, by go_num, rfl, HVN⟩ | ((repeat apply Exists.intro); exact ⟨⟨j + 1, _, by omega, by go_num, rfl, HVN⟩, rfl⟩)
          · by_cases hj0 : j = 0
            · obtain rfl : o = [] := by have := HV.out.len; rw [hj0] at this; exact List.eq_nil_of_length_eq_zero (by omega)
              have hdj : decide (0 < j) = false := decide_eq_false (by omega)
              have HJ0 := Lib.hid hj0
              clear hj0
              have hy : digN x = rowT (x, y) := by rw [hrt, if_neg hlt2]; simp
              clear hrt
              generalize digN x = D at da la hy
              have HY := Lib.hid hy
              clear hy
              go_wp2_with (first
                | (go_at_call 25; (with_reducible refine (da _).mono ?_); rintro e w3 ⟨rfl, hb3⟩; have x0 := e0w w3 hb3; have x1 := e1w w3 hb3; have HB3 := Lib.hid hb3; clear hb3 da)
                | fail)
              go_quiet (fail)
              go_wp2_with fail
              have HVN := fun c => Lib.hid (HV.out.next hjl HRR.out (below_drewN HB3.out c) (rowT_len _ ra rb) (o' := D) (by rw [if_pos HJ0.out, ← HY.out]))
              refine ⟨?_, by simp [intOf]; omega⟩
              first | exact ⟨j + 1, _, by omega, by go_num, rfl, HVN _⟩ | ((repeat apply Exists.intro); exact ⟨⟨j + 1, _, by omega, by go_num, rfl, HVN _⟩, rfl⟩)
            · have hj1 : (0 : Int) < (j : Int) := by omega
              have hdj : decide (0 < j) = true := decide_eq_true (by omega)
              have hy : digN x = rowT (x, y) := by rw [hrt, if_neg hlt2]; simp
              clear hrt
              generalize digN x = D at da la hy
              have HY := Lib.hid hy
              clear hy
              go_wp2_with (first
                | (go_at_call 25; (with_reducible refine (da _).mono ?_); rintro e w3 ⟨rfl, hb3⟩; have x0 := e0w w3 hb3; have x1 := e1w w3 hb3; have HB3 := Lib.hid hb3; clear hb3 da)
                | fail)
              go_quiet (fail)
              go_wp2_with fail
              have HVN := fun c => Lib.hid (HV.out.next hjl HRR.out (below_drewN HB3.out c) (rowT_len _ ra rb) (o' := o ++ 44 :: D) (by rw [if_neg hj0, ← HY.out]))
              refine ⟨?_, by simp [intOf]; omega⟩
              first | exact ⟨j + 1, _, by omega, by go_num, rfl, HVN _⟩ | ((repeat apply Exists.intro); exact ⟨⟨j + 1, _, by omega, by go_num, rfl, HVN _⟩, rfl⟩)
        · have hjm2 : j = m := by omega
          subst hjm2
          have ho := HV.out.out
          rw [List.take_of_length_le (by rw [HM.out]; exact Nat.le_refl _), HANS2.out] at ho
          subst ho
          go_wp2
          go_ret
          exact ⟨rfl, HQ.out.bel.trans (HV.out.bel.mono HQ.out.bel.size)⟩

end Go.Proofs.YtnfabgbidkddhaaGreatDoor
