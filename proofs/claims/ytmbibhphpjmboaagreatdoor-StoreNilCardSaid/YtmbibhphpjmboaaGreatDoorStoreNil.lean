/-
  The walk of pillarboxlaw18.StoreNil: an account that there is not does nothing.
-/
import Derived.Test.YtmbibhphpjmboaaGreatDoorAwake
namespace Go.Proofs.YtmbibhphpjmboaaGreatDoor
open Go.Shelf Go.RowKit
attribute [local go_sem ↓] Go.wp_at_zero Go.wp_at_succ

set_option maxRecDepth 100000 in
theorem make_nil (s : ByteArray) (n : Int) (w : World) : Calls Tryz.prog 27 #[.pointer none, .string s, .int .i64 n] w fun e w' => e = .returned (.tuple #[.int .i64 0, .int .i64 7]) ∧ Below w.heap.size w w' := by
  go_enter Tryz.func27, Tryz.ntmps27
  go_wp2
  go_ret2
  first | exact ⟨rfl, Below.refl _ _⟩ | exact ⟨rfl, below_alloc1 _ _⟩ | exact ⟨rfl, below_then (below_alloc1 _ _) (below_alloc1 _ _)⟩ | exact ⟨rfl, below_then (below_then (below_alloc1 _ _) (below_alloc1 _ _)) (below_alloc1 _ _)⟩
set_option maxRecDepth 100000 in
theorem append_nil (vb vk : Value) (n : Int) (s : ByteArray) (w : World) : Calls Tryz.prog 19 #[.pointer none, vb, vk, .int .i64 n, .string s] w fun e w' => e = .returned (.tuple #[.int .i64 0, .int .i64 7]) ∧ Below w.heap.size w w' := by
  go_enter Tryz.func19, Tryz.ntmps19
  go_wp2
  go_ret2
  first | exact ⟨rfl, Below.refl _ _⟩ | exact ⟨rfl, below_alloc1 _ _⟩ | exact ⟨rfl, below_then (below_alloc1 _ _) (below_alloc1 _ _)⟩ | exact ⟨rfl, below_then (below_then (below_alloc1 _ _) (below_alloc1 _ _)) (below_alloc1 _ _)⟩
set_option maxRecDepth 100000 in
theorem rename_nil (n : Int) (s : ByteArray) (w : World) : Calls Tryz.prog 29 #[.pointer none, .int .i64 n, .string s, .int .i64 n] w fun e w' => e = .returned (.int .i64 7) ∧ Below w.heap.size w w' := by
  go_enter Tryz.func29, Tryz.ntmps29
  go_wp2
  go_ret
  first | exact ⟨rfl, Below.refl _ _⟩ | exact ⟨rfl, below_alloc1 _ _⟩ | exact ⟨rfl, below_then (below_alloc1 _ _) (below_alloc1 _ _)⟩ | exact ⟨rfl, below_then (below_then (below_alloc1 _ _) (below_alloc1 _ _)) (below_alloc1 _ _)⟩
set_option maxRecDepth 100000 in
theorem drop_nil (n : Int) (w : World) : Calls Tryz.prog 30 #[.pointer none, .int .i64 n] w fun e w' => e = .returned (.int .i64 7) ∧ Below w.heap.size w w' := by
  go_enter Tryz.func30, Tryz.ntmps30
  go_wp2
  go_ret
  first | exact ⟨rfl, Below.refl _ _⟩ | exact ⟨rfl, below_alloc1 _ _⟩ | exact ⟨rfl, below_then (below_alloc1 _ _) (below_alloc1 _ _)⟩ | exact ⟨rfl, below_then (below_then (below_alloc1 _ _) (below_alloc1 _ _)) (below_alloc1 _ _)⟩
set_option maxRecDepth 100000 in
theorem keys_nil (n : Int) (vk : Value) (w : World) : Calls Tryz.prog 24 #[.pointer none, .int .i64 n, vk] w fun e w' => e = .returned (.int .i64 7) ∧ Below w.heap.size w w' := by
  go_enter Tryz.func24, Tryz.ntmps24
  go_wp2
  go_ret
  first | exact ⟨rfl, Below.refl _ _⟩ | exact ⟨rfl, below_alloc1 _ _⟩ | exact ⟨rfl, below_then (below_alloc1 _ _) (below_alloc1 _ _)⟩ | exact ⟨rfl, below_then (below_then (below_alloc1 _ _) (below_alloc1 _ _)) (below_alloc1 _ _)⟩
set_option maxRecDepth 100000 in
theorem place_nil (n : Int) (vb : Value) (w : World) : Calls Tryz.prog 31 #[.pointer none, .int .i64 n, vb] w fun e w' => e = .returned (.int .i64 7) ∧ Below w.heap.size w w' := by
  go_enter Tryz.func31, Tryz.ntmps31
  go_wp2
  go_ret
  first | exact ⟨rfl, Below.refl _ _⟩ | exact ⟨rfl, below_alloc1 _ _⟩ | exact ⟨rfl, below_then (below_alloc1 _ _) (below_alloc1 _ _)⟩ | exact ⟨rfl, below_then (below_then (below_alloc1 _ _) (below_alloc1 _ _)) (below_alloc1 _ _)⟩
set_option maxRecDepth 100000 in
theorem destroy_nil (n : Int) (w : World) : Calls Tryz.prog 28 #[.pointer none, .int .i64 n] w fun e w' => e = .returned (.int .i64 7) ∧ Below w.heap.size w w' := by
  go_enter Tryz.func28, Tryz.ntmps28
  go_wp2
  go_ret
  first | exact ⟨rfl, Below.refl _ _⟩ | exact ⟨rfl, below_alloc1 _ _⟩ | exact ⟨rfl, below_then (below_alloc1 _ _) (below_alloc1 _ _)⟩ | exact ⟨rfl, below_then (below_then (below_alloc1 _ _) (below_alloc1 _ _)) (below_alloc1 _ _)⟩
set_option maxRecDepth 100000 in
theorem clock_nil  (w : World) : Calls Tryz.prog 26 #[.pointer none] w fun e w' => e = .returned (.int .i64 0) ∧ Below w.heap.size w w' := by
  go_enter Tryz.func26, Tryz.ntmps26
  go_wp2
  go_ret
  first | exact ⟨rfl, Below.refl _ _⟩ | exact ⟨rfl, below_alloc1 _ _⟩ | exact ⟨rfl, below_then (below_alloc1 _ _) (below_alloc1 _ _)⟩ | exact ⟨rfl, below_then (below_then (below_alloc1 _ _) (below_alloc1 _ _)) (below_alloc1 _ _)⟩
set_option maxRecDepth 100000 in
theorem boxes_nil  (w : World) : Calls Tryz.prog 25 #[.pointer none] w fun e w' => e = .returned (.slice none 0 0) ∧ Below w.heap.size w w' := by
  go_enter Tryz.func25, Tryz.ntmps25
  go_wp2
  go_ret
  first | exact ⟨rfl, Below.refl _ _⟩ | exact ⟨rfl, below_alloc1 _ _⟩ | exact ⟨rfl, below_then (below_alloc1 _ _) (below_alloc1 _ _)⟩ | exact ⟨rfl, below_then (below_then (below_alloc1 _ _) (below_alloc1 _ _)) (below_alloc1 _ _)⟩
set_option maxRecDepth 100000 in
theorem mails_nil  (w : World) : Calls Tryz.prog 20 #[.pointer none] w fun e w' => e = .returned (.slice none 0 0) ∧ Below w.heap.size w w' := by
  go_enter Tryz.func20, Tryz.ntmps20
  go_wp2
  go_ret
  first | exact ⟨rfl, Below.refl _ _⟩ | exact ⟨rfl, below_alloc1 _ _⟩ | exact ⟨rfl, below_then (below_alloc1 _ _) (below_alloc1 _ _)⟩ | exact ⟨rfl, below_then (below_then (below_alloc1 _ _) (below_alloc1 _ _)) (below_alloc1 _ _)⟩
set_option maxRecDepth 100000 in
theorem log_nil  (w : World) : Calls Tryz.prog 40 #[.pointer none] w fun e w' => e = .returned (.pointer none) ∧ Below w.heap.size w w' := by
  go_enter Tryz.func40, Tryz.ntmps40
  go_wp2
  go_ret
  first | exact ⟨rfl, Below.refl _ _⟩ | exact ⟨rfl, below_alloc1 _ _⟩ | exact ⟨rfl, below_then (below_alloc1 _ _) (below_alloc1 _ _)⟩ | exact ⟨rfl, below_then (below_then (below_alloc1 _ _) (below_alloc1 _ _)) (below_alloc1 _ _)⟩
set_option maxRecDepth 100000 in
theorem copy_nil  (w : World) : Calls Tryz.prog 38 #[.pointer none] w fun e w' => e = .returned (.pointer none) ∧ Below w.heap.size w w' := by
  go_enter Tryz.func38, Tryz.ntmps38
  go_wp2
  go_ret
  first | exact ⟨rfl, Below.refl _ _⟩ | exact ⟨rfl, below_alloc1 _ _⟩ | exact ⟨rfl, below_then (below_alloc1 _ _) (below_alloc1 _ _)⟩ | exact ⟨rfl, below_then (below_then (below_alloc1 _ _) (below_alloc1 _ _)) (below_alloc1 _ _)⟩
set_option maxRecDepth 100000 in
theorem gadd_nil  (w : World) : Calls Tryz.prog 44 #[.pointer none, .slice none 0 0] w fun e w' => e = .returned (.tuple #[]) ∧ Below w.heap.size w w' := by
  go_enter Tryz.func44, Tryz.ntmps44
  go_wp2
  first
    | (go_end0; exact ⟨rfl, Below.refl _ _⟩)
    | (refine bodyPost_ret (results_none rfl _ _ _) rfl ?_; exact ⟨rfl, Below.refl _ _⟩)
set_option maxRecDepth 100000 in
theorem gall_nil  (w : World) : Calls Tryz.prog 45 #[.pointer none] w fun e w' => e = .returned (.slice none 0 0) ∧ Below w.heap.size w w' := by
  go_enter Tryz.func45, Tryz.ntmps45
  go_wp2
  go_ret
  first | exact ⟨rfl, Below.refl _ _⟩ | exact ⟨rfl, below_alloc1 _ _⟩ | exact ⟨rfl, below_then (below_alloc1 _ _) (below_alloc1 _ _)⟩ | exact ⟨rfl, below_then (below_then (below_alloc1 _ _) (below_alloc1 _ _)) (below_alloc1 _ _)⟩
set_option maxRecDepth 100000 in
theorem gfloor_nil  (w : World) : Calls Tryz.prog 46 #[.pointer none] w fun e w' => e = .returned (.int .i64 0) ∧ Below w.heap.size w w' := by
  go_enter Tryz.func46, Tryz.ntmps46
  go_wp2
  go_ret
  first | exact ⟨rfl, Below.refl _ _⟩ | exact ⟨rfl, below_alloc1 _ _⟩ | exact ⟨rfl, below_then (below_alloc1 _ _) (below_alloc1 _ _)⟩ | exact ⟨rfl, below_then (below_then (below_alloc1 _ _) (below_alloc1 _ _)) (below_alloc1 _ _)⟩
set_option maxRecDepth 100000 in
theorem gcopy_nil  (w : World) : Calls Tryz.prog 47 #[.pointer none] w fun e w' => e = .returned (.pointer none) ∧ Below w.heap.size w w' := by
  go_enter Tryz.func47, Tryz.ntmps47
  go_wp2
  go_ret
  first | exact ⟨rfl, Below.refl _ _⟩ | exact ⟨rfl, below_alloc1 _ _⟩ | exact ⟨rfl, below_then (below_alloc1 _ _) (below_alloc1 _ _)⟩ | exact ⟨rfl, below_then (below_then (below_alloc1 _ _) (below_alloc1 _ _)) (below_alloc1 _ _)⟩
theorem since_nil (n : Int) (w : World) : Calls Tryz.prog 41 #[.pointer none, .int .i64 n, .int .i64 n, .int .i64 n, .int .i64 n] w fun e w' => e = .returned (.tuple #[.agg #[.slice none 0 0, .slice none 0 0, .slice none 0 0, .int .i64 0, .bool false], .int .i64 7]) ∧ Below w.heap.size w w' := by
  go_enter Tryz.func41, Tryz.ntmps41
  go_wp2
  refine bodyPost_ret (v := .tuple #[.agg #[.slice none 0 0, .slice none 0 0, .slice none 0 0, .int .i64 0, .bool false], .int .i64 7]) ?_ rfl ⟨rfl, ?_⟩
  · simp [results, Tryz.results41, go_sem]
  · exact below_alloc1 _ _

set_option maxRecDepth 100000 in
set_option maxHeartbeats 4000000 in
theorem storeNil_any (happ : AppendOk) (s : ByteArray) (n : Int) (vb vk : Value) (w : World) : Calls Tryz.prog 14 #[.string s, .int .i64 n, vb, vk] w fun e w' => e = .returned (.bool true) ∧ Below w.heap.size w w' := by
  have HAPP := Lib.hid happ
  clear happ
  go_enter Tryz.func14, Tryz.ntmps14
  go_wp2_with (first
    | (go_at_call 18; refine (num_any _ _).mono ?_; rintro e wn ⟨rfl, rfl⟩)
    | (go_at_call 27; refine (make_nil s n _).mono ?_; rintro e w_make ⟨rfl, hb⟩; have B_make := Lib.hid hb; clear hb)
    | (go_at_call 19; refine (append_nil vb vk n s _).mono ?_; rintro e w_append ⟨rfl, hb⟩; have B_append := Lib.hid hb; clear hb)
    | (go_at_call 29; refine (rename_nil n s _).mono ?_; rintro e w_rename ⟨rfl, hb⟩; have B_rename := Lib.hid hb; clear hb)
    | (go_at_call 30; refine (drop_nil n _).mono ?_; rintro e w_drop ⟨rfl, hb⟩; have B_drop := Lib.hid hb; clear hb)
    | (go_at_call 24; refine (keys_nil n vk _).mono ?_; rintro e w_keys ⟨rfl, hb⟩; have B_keys := Lib.hid hb; clear hb)
    | (go_at_call 31; refine (place_nil n vb _).mono ?_; rintro e w_place ⟨rfl, hb⟩; have B_place := Lib.hid hb; clear hb)
    | (go_at_call 28; refine (destroy_nil n _).mono ?_; rintro e w_destroy ⟨rfl, hb⟩; have B_destroy := Lib.hid hb; clear hb)
    | (go_at_call 26; refine (clock_nil  _).mono ?_; rintro e w_clock ⟨rfl, hb⟩; have B_clock := Lib.hid hb; clear hb)
    | (go_at_call 25; refine (boxes_nil  _).mono ?_; rintro e w_boxes ⟨rfl, hb⟩; have B_boxes := Lib.hid hb; clear hb)
    | (go_at_call 20; refine (mails_nil  _).mono ?_; rintro e w_mails ⟨rfl, hb⟩; have B_mails := Lib.hid hb; clear hb)
    | (go_at_call 40; refine (log_nil  _).mono ?_; rintro e w_log ⟨rfl, hb⟩; have B_log := Lib.hid hb; clear hb)
    | (go_at_call 38; refine (copy_nil  _).mono ?_; rintro e w_copy ⟨rfl, hb⟩; have B_copy := Lib.hid hb; clear hb)
    | (go_at_call 44; refine (gadd_nil  _).mono ?_; rintro e w_gadd ⟨rfl, hb⟩; have B_gadd := Lib.hid hb; clear hb)
    | (go_at_call 45; refine (gall_nil  _).mono ?_; rintro e w_gall ⟨rfl, hb⟩; have B_gall := Lib.hid hb; clear hb)
    | (go_at_call 46; refine (gfloor_nil  _).mono ?_; rintro e w_gfloor ⟨rfl, hb⟩; have B_gfloor := Lib.hid hb; clear hb)
    | (go_at_call 47; refine (gcopy_nil  _).mono ?_; rintro e w_gcopy ⟨rfl, hb⟩; have B_gcopy := Lib.hid hb; clear hb)
    | (go_at_call 41; refine (since_nil n _).mono ?_; rintro e w_since ⟨rfl, hb⟩; have B_since := Lib.hid hb; clear hb)
    | (go_at_call 15; refine (awake_any HAPP.out _).mono ?_; rintro e w_awake ⟨rfl, hb⟩; have B_awake := Lib.hid hb; clear hb)
    | fail)
  go_ret
  exact ⟨rfl, (below_then (below_then (below_then (below_then (below_then (below_then (below_then (below_then (below_then (below_then (below_then (below_then (below_then (below_then (below_then (below_then (below_then (below_then B_make.out B_append.out) B_since.out) (below_alloc1 _ _)) B_gadd.out) B_rename.out) B_drop.out) B_keys.out) B_place.out) B_destroy.out) B_clock.out) B_boxes.out) B_mails.out) B_log.out) B_copy.out) B_gall.out) B_gfloor.out) B_gcopy.out) B_awake.out)⟩

end Go.Proofs.YtmbibhphpjmboaaGreatDoor
