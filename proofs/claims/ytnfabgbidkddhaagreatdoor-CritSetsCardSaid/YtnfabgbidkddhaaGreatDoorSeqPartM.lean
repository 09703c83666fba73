/-
  The walks of seq.one, of the reference's bound and of seq.part: the number that a word is, the range that a part is; nothing that was there turns.
-/
import Derived.Test.YtnfabgbidkddhaaGreatDoorSeqNumM
import Derived.Test.YtnfabgbidkddhaaGreatDoorGCB
import Derived.Test.YtnfabgbidkddhaaGreatDoorShelf
namespace Go.Proofs.YtnfabgbidkddhaaGreatDoor
open Go.RowKit

theorem run_max_int {P : Program} (ats : Array TypeId) (ty : TypeId) (a b : Int) (w : World) : (Builtin.max_ ats ty #[.int .i64 a, .int .i64 b]).run P w = .ok (.int .i64 (if a < b then b else a)) w := by
  simp [Builtin.max_, Builtin.max2]
theorem run_min_int {P : Program} (ats : Array TypeId) (ty : TypeId) (a b : Int) (w : World) : (Builtin.min_ ats ty #[.int .i64 a, .int .i64 b]).run P w = .ok (.int .i64 (if b < a then b else a)) w := by
  simp [Builtin.min_, Builtin.min2]

/-- What the library's one variable that is not listed holds: an int, whatever it be. -/
def Mx (w : World) : Prop := ∃ m, w.cell? ⟨0, 0, none⟩ = some (.int .i64 m)
theorem Mx.below {w w' : World} (h : Mx w) (hb : Below w.heap.size w w') : Mx w' := by
  obtain ⟨m, hm⟩ := h
  exact ⟨m, (hb.cell (p := ⟨0, 0, none⟩) (World.block_lt_of_cell? _ _ hm)).trans hm⟩

def boundL (l : List UInt8) (star : Int) : Int × Bool :=
  if l = [42] then (if star < 0 then 0 else star, true)
  else ((numberL l).1, (numberL l).2 && decide (0 < (numberL l).1))

theorem numberL_ge (l : List UInt8) : 0 ≤ (numberL l).1 := by
  have hgo : ∀ (l : List UInt8) (n m : Int), 0 ≤ n → numGo l n = some m → 0 ≤ m := by
    intro l
    induction l with
    | nil => intro n m h0 h; injection h with h; omega
    | cons c r ih =>
      intro n m h0 h
      unfold numGo at h
      split at h
      · cases h
      · exact ih _ m (by omega) h
  unfold numberL
  split
  · exact Int.le_refl _
  · split
    · rename_i n hn
      split
      · exact Int.le_refl _
      · exact hgo _ _ _ (Int.le_refl _) hn
    · exact Int.le_refl _

set_option maxRecDepth 100000 in
set_option maxHeartbeats 400000 in
theorem one_any (s : ByteArray) (star : Int) (w : World) (hs : s.size ≤ 140737488351232) :
    Calls Tryz.prog 133 #[.string s, .int .i64 star] w fun e w' => e = .returned (.tuple #[.int .i64 (boundL s.data.toList star).1, .bool (boundL s.data.toList star).2]) ∧ w = w' := by
  have hn := number_any s w hs
  have hmx := @run_max_int Tryz.prog
  by_cases hst : s = ⟨#[42]⟩
  · subst hst
    have hb : boundL (ByteArray.mk #[42]).data.toList star = (if star < 0 then 0 else star, true) := if_pos rfl
    rw [hb]
    clear hn hb
    go_enter Tryz.func133, Tryz.ntmps133
    go_wp2_with fail
    all_goals
      go_ret2
      exact ⟨rfl, rfl⟩
  · have hne := ne_toListB s [42] hst
    have hb : boundL s.data.toList star = ((numberL s.data.toList).1, (numberL s.data.toList).2 && decide (0 < (numberL s.data.toList).1)) := if_neg fun h => hst (of_dataL s [42] h)
    rw [hb]
    clear hb hst
    generalize numberL s.data.toList = r at hn
    obtain ⟨n, b⟩ := r
    cases b
    · go_enter Tryz.func133, Tryz.ntmps133
      go_wp2_with (go_at_call 139; refine hn.mono ?_; rintro e w' ⟨rfl, rfl⟩)
      go_ret2
      exact ⟨rfl, rfl⟩
    · go_enter Tryz.func133, Tryz.ntmps133
      go_wp2_with (go_at_call 139; refine hn.mono ?_; rintro e w' ⟨rfl, rfl⟩)
      go_ret2
      exact ⟨by simp, rfl⟩

set_option maxRecDepth 100000 in
set_option maxHeartbeats 400000 in
theorem refBound_any (s : ByteArray) (star : Int) (w : World) (hs : s.size ≤ 140737488351232) :
    Calls Tryz.prog 116 #[.string s, .int .i64 star] w fun e w' => e = .returned (.tuple #[.int .i64 (boundL s.data.toList star).1, .bool (boundL s.data.toList star).2]) ∧ w = w' := by
  have hn := refNumber_any s w hs
  have hmx := @run_max_int Tryz.prog
  by_cases hst : s = ⟨#[42]⟩
  · subst hst
    have hb : boundL (ByteArray.mk #[42]).data.toList star = (if star < 0 then 0 else star, true) := if_pos rfl
    rw [hb]
    clear hn hb
    go_enter Tryz.func116, Tryz.ntmps116
    go_wp2_with fail
    all_goals
      go_ret2
      exact ⟨rfl, rfl⟩
  · have hne := ne_toListB s [42] hst
    have hb : boundL s.data.toList star = ((numberL s.data.toList).1, (numberL s.data.toList).2 && decide (0 < (numberL s.data.toList).1)) := if_neg fun h => hst (of_dataL s [42] h)
    rw [hb]
    clear hb hst
    generalize numberL s.data.toList = r at hn
    obtain ⟨n, b⟩ := r
    cases b
    · go_enter Tryz.func116, Tryz.ntmps116
      go_wp2_with (go_at_call 120; refine hn.mono ?_; rintro e w' ⟨rfl, rfl⟩)
      go_ret2
      exact ⟨rfl, rfl⟩
    · go_enter Tryz.func116, Tryz.ntmps116
      go_wp2_with (go_at_call 120; refine hn.mono ?_; rintro e w' ⟨rfl, rfl⟩)
      go_ret2
      exact ⟨by simp, rfl⟩

theorem below_drewN {B : Nat} {w w' : World} (h : Below B w w') (n : Nat) : Below B w (w'.drewN n) := ⟨h.os, h.tape, h.output, h.size, h.block⟩

def cutL (l : List UInt8) : List UInt8 × List UInt8 :=
  ((Lib.cut l [58]).1, if (Lib.cut l [58]).2.2 then (Lib.cut l [58]).2.1 else (Lib.cut l [58]).1)
def partL (l : List UInt8) (star : Int) : (Int × Int) × Bool :=
  let x := boundL (cutL l).1 star
  let y := boundL (cutL l).2 star
  ((if y.1 < x.1 then y.1 else x.1, if x.1 < y.1 then y.1 else x.1), x.2 && y.2)

theorem cut_len (l : List UInt8) : (Lib.cut l [58]).1.length ≤ l.length ∧ (Lib.cut l [58]).2.1.length ≤ l.length := by
  unfold Lib.cut
  split
  · exact ⟨by simp; omega, by simp⟩
  · exact ⟨Nat.le_refl _, by simp⟩

set_option maxRecDepth 100000 in
set_option maxHeartbeats 1000000 in
theorem part_any (s : ByteArray) (star : Int) (w : World) (hs : s.size ≤ 2000) (hm : Mx w) :
    Calls Tryz.prog 98 #[.string s, .int .i64 star] w fun e w' => e = .returned (.tuple #[.agg #[.int .i64 (partL s.data.toList star).1.1, .int .i64 (partL s.data.toList star).1.2], .bool (partL s.data.toList star).2]) ∧ Below w.heap.size w w' := by
  obtain ⟨m, hm0⟩ := hm
  have hlt := World.block_lt_of_cell? _ _ hm0
  have hcut := fun W (hb : Below w.heap.size w W) => Tryz.strings_Cut s ⟨#[58]⟩ m W (by omega) ((hb.cell (p := ⟨0, 0, none⟩) hlt).trans hm0)
  simp only at hcut
  obtain ⟨ca, cb⟩ := cut_len s.data.toList
  obtain ⟨q, hq⟩ : ∃ q, Lib.cut s.data.toList [58] = q := ⟨_, rfl⟩
  unfold partL cutL
  rw [hq] at ca cb ⊢
  simp only [hq] at hcut
  obtain ⟨a, b, two⟩ := q
  simp only at ca cb hcut ⊢
  have ho1 := fun W => one_any ⟨a.toArray⟩ star W (by show a.toArray.size ≤ _; simp at ca ⊢; omega)
  have ho2 := fun W => one_any ⟨(if two then b else a).toArray⟩ star W (by show (if two then b else a).toArray.size ≤ _; cases two <;> simp at ca cb ⊢ <;> omega)
  simp only at ho1 ho2
  generalize boundL a star = x at ho1
  generalize boundL (if two then b else a) star = y at ho2
  obtain ⟨x, bx⟩ := x
  obtain ⟨y, bz⟩ := y
  have hmx := fun ats ty W => run_max_int (P := Tryz.prog) ats ty x y W
  have hmn := fun ats ty W => run_min_int (P := Tryz.prog) ats ty x y W
  simp only at ho1 ho2 ⊢
  generalize (if x < y then y else x) = hi at hmx
  generalize (if y < x then y else x) = lo at hmn
  clear hq ca cb hm0 hlt hs
  cases two <;> cases bx <;> simp only [Bool.false_eq_true, if_false, if_true] at ho2
  all_goals
    go_enter Tryz.func98, Tryz.ntmps98
    go_wp2_with (first
      | (go_at_call 92; refine (hcut _ ((Below.refl _ w).alloc (Nat.le_refl _) _)).mono ?_; rintro e w2 ⟨rfl, q, rfl⟩; clear hcut)
      | (go_at_call 133; with_reducible refine (ho1 _).mono ?_; rintro e w3 ⟨rfl, rfl⟩; clear ho1)
      | (go_at_call 133; with_reducible refine (ho2 _).mono ?_; rintro e w3 ⟨rfl, rfl⟩; clear ho2)
      | fail)
    have B0 := (((Blk.new w 75 #[.int .i64 0, .int .i64 0]).heap (w' := (w.alloc (.cells #[.int .i64 0, .int .i64 0] 75)).drewN q) rfl).set 0 (.int .i64 lo)).set 1 (.int .i64 hi)
    have c0 := B0.cell 0
    have c1 := B0.cell 1
    refine bodyPost_ret (v := .tuple #[.agg #[.int .i64 lo, .int .i64 hi], .bool _]) ?_ rfl ⟨rfl, ?_⟩
    · simp [results, Tryz.results98, go_sem, c0, c1]
    · exact ((below_drewN ((Below.refl _ w).alloc (Nat.le_refl _) _) q).setCell (Nat.le_refl _) _).setCell (Nat.le_refl _) _

end Go.Proofs.YtnfabgbidkddhaaGreatDoor
