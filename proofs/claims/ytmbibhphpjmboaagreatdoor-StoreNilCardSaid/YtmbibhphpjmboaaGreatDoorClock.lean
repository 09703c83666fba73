/-
  The walks of the account's clock: the library's atomic number; Clock, step, ends.
-/
import Derived.Test.YtmbibhphpjmboaaGreatDoorLogAdd
import Derived.Laws.LoneSync
namespace Go.Proofs.YtmbibhphpjmboaaGreatDoor
open Go.RowKit
attribute [local go_sem ↓] Go.wp_at_zero Go.wp_at_succ

theorem atomAdd_any (g o : Nat) (x y : Int) (w : World) (hc : w.cell? ⟨g, o, none⟩ = some (.int .i64 x)) (hf : w.frozen? ⟨g, o, none⟩ = false) (hs : -9223372036854775808 ≤ x + y ∧ x + y ≤ 9223372036854775807) :
    Calls Tryz.prog 118 #[.pointer (some ⟨g, o, none⟩), .int .i64 y] w fun e w' => e = .returned (.int .i64 (x + y)) ∧ w' = w.setCell ⟨g, o, none⟩ (.int .i64 (x + y)) := by
  have hw : IntKind.i64.wrap (x + y) = x + y := IntWalk.i64_in _ hs
  have h1 := run_call_add (P := Tryz.prog) (f := 163) Tryz.func163 rfl rfl rfl .i64 rfl (a := ⟨g, o, none⟩) (x := x) (y := y) (s := x + y) (w := w) hc hf (by simp [Op.intArith, hw])
  go_enter Tryz.func118, Tryz.ntmps118
  go_wp2
  go_ret
  exact ⟨rfl, rfl⟩
theorem atomLoad_any (g o : Nat) (x : Int) (w : World) (hc : w.cell? ⟨g, o, none⟩ = some (.int .i64 x)) :
    Calls Tryz.prog 68 #[.pointer (some ⟨g, o, none⟩)] w fun e w' => e = .returned (.int .i64 x) ∧ w = w' := by
  have h1 := run_call_load (P := Tryz.prog) (f := 125) Tryz.func125 rfl rfl rfl .i64 rfl (a := ⟨g, o, none⟩) (x := x) (w := w) hc
  go_enter Tryz.func68, Tryz.ntmps68
  go_wp2
  go_ret
  exact ⟨rfl, rfl⟩
theorem clock_any (g : Nat) (x : Int) (w : World) (hc : w.cell? ⟨g, 9, none⟩ = some (.int .i64 x)) :
    Calls Tryz.prog 26 #[.pointer (some ⟨g, 0, none⟩)] w fun e w' => e = .returned (.int .i64 x) ∧ w = w' := by
  have hl := atomLoad_any g 9 x w hc
  go_enter Tryz.func26, Tryz.ntmps26
  go_wp2_with (first
    | (go_at_call 68; refine hl.mono ?_; rintro e w' ⟨rfl, rfl⟩)
    | fail)
  go_ret
  exact ⟨rfl, rfl⟩

theorem step_any (g : Nat) (x : Int) (w : World) (hc : w.cell? ⟨g, 9, none⟩ = some (.int .i64 x)) (hf : w.frozen? ⟨g, 9, none⟩ = false) (hx : 0 ≤ x ∧ x ≤ 4294967296) :
    Calls Tryz.prog 56 #[.pointer (some ⟨g, 0, none⟩)] w fun e w' => e = .returned (.int .i64 (x + 1)) ∧ w' = w.setCell ⟨g, 9, none⟩ (.int .i64 (x + 1)) := by
  have ha := atomAdd_any g 9 x 1 w hc hf (by omega)
  go_enter Tryz.func56, Tryz.ntmps56
  go_wp2_with (first
    | (go_at_call 118; refine ha.mono ?_; rintro e w' ⟨rfl, rfl⟩)
    | fail)
  go_ret
  exact ⟨rfl, rfl⟩

theorem ends_any (g : Nat) (x m : Int) (w : World) (hc : w.cell? ⟨g, 9, none⟩ = some (.int .i64 x)) (hm : w.cell? ⟨g, 6, none⟩ = some (.int .i64 m)) :
    Calls Tryz.prog 53 #[.pointer (some ⟨g, 0, none⟩)] w fun e w' => e = .returned (.bool (decide (m ≤ x))) ∧ ∃ n, w' = w.drewN n := by
  have hcl := fun W (h : W.heap = w.heap) => clock_any g x W (by rw [show W.cell? ⟨g, 9, none⟩ = w.cell? ⟨g, 9, none⟩ from World.cell?_of_block (by rw [h])]; exact hc)
  go_enter Tryz.func53, Tryz.ntmps53
  go_wp2_with fail
  go_region_with (first
    | (go_at_call 26; refine (hcl _ (by rfl)).mono ?_; rintro e w3 ⟨rfl, rfl⟩)
    | fail)
  all_goals
    go_wp2
    go_ret
    exact ⟨rfl, 1, rfl⟩

end Go.Proofs.YtmbibhphpjmboaaGreatDoor
