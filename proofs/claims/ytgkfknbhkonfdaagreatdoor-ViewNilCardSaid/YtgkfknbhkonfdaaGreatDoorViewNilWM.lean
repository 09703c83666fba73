/-
  The walk of pillarboxlaw24.ViewNil.
-/
import Derived.Test.YtgkfknbhkonfdaaGreatDoorGVE
namespace Go.Proofs.YtgkfknbhkonfdaaGreatDoor
open Go.Shelf Go.RowKit Go.Lib
attribute [local go_sem ↓] Go.wp_at_zero Go.wp_at_succ

set_option maxRecDepth 100000 in
set_option maxHeartbeats 4000000 in
theorem viewNil_any (n : Int) (w : World) (ht : TensV w) : Calls Tryz.prog 8 #[.int .i64 n] w fun e w' => e = .returned (.bool true) ∧ Below w.heap.size w w' := by
  have haw : ∀ W, Below w.heap.size w W → _ := fun W hb => awakeV_any W (ht.later hb)
  have HAW := Lib.hid haw
  clear haw ht
  go_enter Tryz.func8, Tryz.ntmps8
  go_wp2_with (first
    | (go_at_call 12; refine (newView_nil _ _).mono ?_; rintro e w1 ⟨rfl, hb⟩; have HB1 := Lib.hid hb; clear hb)
    | (go_at_call 11; refine (begun_any _).mono ?_; rintro e w2 ⟨g, q, g2, rfl, ho⟩; have HB2 := Lib.hid (below_then HB1.out ho.below); clear ho)
    | (go_at_call 24; refine (told_nil _ _ _).mono ?_; rintro e wn ⟨rfl, rfl⟩)
    | (go_at_call 13; refine (num_any _ _).mono ?_; rintro e wn ⟨rfl, rfl⟩)
    | (go_at_call 27; refine (box_nil _).mono ?_; rintro e wn ⟨rfl, rfl⟩)
    | (go_at_call 14; refine (uids_nil _).mono ?_; rintro e wn ⟨rfl, rfl⟩)
    | (go_at_call 26; refine (ids_nil _).mono ?_; rintro e wn ⟨rfl, rfl⟩)
    | (go_at_call 16; refine (update_nil _ _ _).mono ?_; rintro e wn ⟨rfl, rfl⟩)
    | (go_at_call 10; refine (HAW.out _ HB2.out).mono ?_; rintro e w9 ⟨rfl, hb⟩; have HB9 := Lib.hid (below_then HB2.out hb); clear hb)
    | fail)
  go_ret
  exact ⟨rfl, HB9.out⟩

end Go.Proofs.YtgkfknbhkonfdaaGreatDoor
