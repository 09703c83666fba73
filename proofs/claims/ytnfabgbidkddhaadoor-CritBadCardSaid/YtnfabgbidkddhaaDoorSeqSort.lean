/-
  The walks of cmp.Compare, cmp.Or at int, of the comparison that seq.Merge sorts by, and of slices.SortFunc at ranges.
-/
import Derived.Test.YtnfabgbidkddhaaDoorSeqPlain
import Derived.Test.YtnfabgbidkddhaaDoorMem
import Derived.Test.YtnfabgbidkddhaaDoorProg
import Derived.Deep.RegionWith
import Derived.Shelf.SlSortCmp.NoneTotal
import Derived.Shelf.SlGeneric
import Derived.Shelf.Lay
import Derived.Ground.SlsfProg
import Derived.Deep.DrawnRows
import Derived.BigQuiet
namespace Go.Proofs.YtnfabgbidkddhaaDoor
open Go.Shelf Go.RowKit Go.Lib Go.Sort
attribute [local go_sem ↓] Go.wp_at_zero Go.wp_at_succ

set_option maxRecDepth 100000 in
theorem cmp_any (x y : Int) (w : World) : Calls Tryd.prog 41 #[.int .i64 x, .int .i64 y] w fun e w' => e = .returned (.int .i64 (Lib.compareInt x y)) ∧ w = w' := by
  obtain ⟨r, hr⟩ : ∃ r, Lib.compareInt x y = r := ⟨_, rfl⟩
  rw [hr]
  have HR := Lib.hid hr
  clear hr
  by_cases h1 : x < y
  · have hr2 : r = -1 := by rw [← HR.out]; exact if_pos h1
    subst hr2
    clear HR
    go_enter Tryd.func41, Tryd.ntmps41
    go_wp2
    go_ret
    exact ⟨rfl, rfl⟩
  · by_cases h2 : y < x
    · have hr2 : r = 1 := by rw [← HR.out]; unfold Lib.compareInt; rw [if_neg h1, if_pos h2]
      subst hr2
      clear HR
      go_enter Tryd.func41, Tryd.ntmps41
      go_wp2
      go_ret
      exact ⟨rfl, rfl⟩
    · have hr2 : r = 0 := by rw [← HR.out]; unfold Lib.compareInt; rw [if_neg h1, if_neg h2]
      subst hr2
      clear HR
      go_enter Tryd.func41, Tryd.ntmps41
      go_wp2
      go_ret
      exact ⟨rfl, rfl⟩

def orI (x y : Int) : Int := if x = 0 then y else x

set_option maxRecDepth 100000 in
theorem or_any (x y : Int) (b : Nat) (w : World) (h0 : w.cell? ⟨b, 0, none⟩ = some (.int .i64 x)) (h1 : w.cell? ⟨b, 1, none⟩ = some (.int .i64 y)) :
    Calls Tryd.prog 40 #[.slice (some ⟨b, 0, none⟩) 2 2] w fun e w' => e = .returned (.int .i64 (orI x y)) ∧ w = w' := by
  obtain ⟨r, hr⟩ : ∃ r, orI x y = r := ⟨_, rfl⟩
  rw [hr]
  unfold orI at hr
  have HR := Lib.hid hr
  clear hr
  by_cases hx : x = 0
  · subst hx
    have hr2 : r = y := by rw [← HR.out]; exact if_pos rfl
    subst hr2
    clear HR
    by_cases hy : r = 0
    · subst hy
      go_enter Tryd.func40, Tryd.ntmps40
      go_wp2
      refine wp_loop_rounds 3 ?_
      rw [rounds_succ]
      go_wp2
      try (rw [rounds_succ]; go_wp2)
      try (rw [rounds_succ]; go_wp2)
      go_ret
      exact ⟨rfl, rfl⟩
    · go_enter Tryd.func40, Tryd.ntmps40
      go_wp2
      refine wp_loop_rounds 3 ?_
      rw [rounds_succ]
      go_wp2
      try (rw [rounds_succ]; go_wp2)
      try (rw [rounds_succ]; go_wp2)
      go_ret
      exact ⟨rfl, rfl⟩
  · have hr2 : r = x := by rw [← HR.out]; exact if_neg hx
    subst hr2
    clear HR
    go_enter Tryd.func40, Tryd.ntmps40
    go_wp2
    refine wp_loop_rounds 3 ?_
    rw [rounds_succ]
    go_wp2
    try (rw [rounds_succ]; go_wp2)
    try (rw [rounds_succ]; go_wp2)
    go_ret
    exact ⟨rfl, rfl⟩

/-- A range's two cells; by what they are sorted. -/
def encR (x : Rg) : List Value := [.int .i64 x.1, .int .i64 x.2]
def cfR (x y : Rg) : Int := orI (Lib.compareInt x.1 y.1) (Lib.compareInt x.2 y.2)

set_option maxRecDepth 100000 in
set_option maxHeartbeats 1000000 in
theorem closure_any (x y : Rg) (W : World) : Calls Tryd.prog 39 #[.agg #[.int .i64 x.1, .int .i64 x.2], .agg #[.int .i64 y.1, .int .i64 y.2]] W fun e w' => e = .returned (.int .i64 (cfR x y)) ∧ ∃ q os', w' = grow (W.drewN q) os' := by
  obtain ⟨x1, x2⟩ := x
  obtain ⟨y1, y2⟩ := y
  have hc := fun a b W => cmp_any a b W
  unfold cfR
  simp only
  obtain ⟨r1, hr1⟩ : ∃ r, Lib.compareInt x1 y1 = r := ⟨_, rfl⟩
  obtain ⟨r2, hr2⟩ : ∃ r, Lib.compareInt x2 y2 = r := ⟨_, rfl⟩
  have hc1 := fun W => cmp_any x1 y1 W
  have hc2 := fun W => cmp_any x2 y2 W
  rw [hr1] at hc1 ⊢
  rw [hr2] at hc2 ⊢
  clear hr1 hr2 hc
  have ho : ∀ W', W'.heap = (((W.alloc (.cells #[.int .i64 x1, .int .i64 x2] 58)).alloc (.cells #[.int .i64 y1, .int .i64 y2] 58)).alloc (.cells #[.int .i64 r1, .int .i64 r2] 3)).heap →
      Calls Tryd.prog 40 #[.slice (some ⟨W.heap.size + 1 + 1, 0, none⟩) 2 2] W' fun e w' => e = .returned (.int .i64 (orI r1 r2)) ∧ W' = w' := fun W' e => by
    have h := (Blk.new ((W.alloc (.cells #[.int .i64 x1, .int .i64 x2] 58)).alloc (.cells #[.int .i64 y1, .int .i64 y2] 58)) 3 #[.int .i64 r1, .int .i64 r2]).heap e
    have h2 : Blk W' (W.heap.size + 1 + 1) 3 #[.int .i64 r1, .int .i64 r2] := by simpa using h
    exact or_any r1 r2 _ W' (h2.cell 0) (h2.cell 1)
  go_enter Tryd.func39, Tryd.ntmps39
  go_wp2_with fail
  go_region_with (first
    | (go_at_call 41; with_reducible refine (hc1 _).mono ?_; rintro e w3 ⟨rfl, rfl⟩)
    | (go_at_call 41; with_reducible refine (hc2 _).mono ?_; rintro e w3 ⟨rfl, rfl⟩)
    | (go_at_call 40; go_loud (refine (ho _ (by rfl)).mono ?_; rintro e w4 ⟨rfl, rfl⟩))
    | fail)
  all_goals
    go_wp2
    go_ret
    exact ⟨rfl, 1, _, by rw [alloc_eq_grow, alloc_eq_grow, alloc_eq_grow, grow_grow, grow_grow]; rfl⟩

theorem ltR (x y : Rg) : ltOf cfR x y = decide (x.1 < y.1 ∨ x.1 = y.1 ∧ x.2 < y.2) := by
  unfold ltOf cfR orI Lib.compareInt
  by_cases h1 : x.1 < y.1
  · simp [h1]
  · by_cases h2 : y.1 < x.1
    · simp [h1, h2]; omega
    · have : x.1 = y.1 := by omega
      by_cases h3 : x.2 < y.2
      · simp [this, h3]
      · by_cases h4 : y.2 < x.2 <;> simp [this, h3, h4]

theorem swoR : SWO (ltOf cfR) where
  irrefl x := by rw [ltR]; simp
  trans x y z h1 h2 := by rw [ltR] at *; simp only [decide_eq_true_eq] at *; omega
  ntrans x y z h1 h2 := by rw [ltR] at *; simp only [decide_eq_false_iff_not] at *; omega

theorem totR (x y : Rg) (h1 : ltOf cfR x y = false) (h2 : ltOf cfR y x = false) : x = y := by
  rw [ltR] at h1 h2
  simp only [decide_eq_false_iff_not] at h1 h2
  exact Prod.ext (by omega) (by omega)

end Go.Proofs.YtnfabgbidkddhaaDoor
