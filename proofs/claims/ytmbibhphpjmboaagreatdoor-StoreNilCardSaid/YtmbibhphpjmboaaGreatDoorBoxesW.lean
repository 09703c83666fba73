/-
  The walks of the store's Boxes, of an account that there is not, and of the numbers of an error.
-/
import Derived.Test.YtmbibhphpjmboaaGreatDoorCloneBM
import Derived.Test.YtmbibhphpjmboaaGreatDoorNew
namespace Go.Proofs.YtmbibhphpjmboaaGreatDoor
open Go.Shelf Go.RowKit
attribute [local go_sem ↓] Go.wp_at_zero Go.wp_at_succ

theorem num_any (w : World) (n : Int) : Calls Tryz.prog 18 #[.int .i64 n] w fun e w' => e = .returned (.int .i64 n) ∧ w = w' := by
  go_enter Tryz.func18, Tryz.ntmps18
  go_wp2
  go_ret
  exact ⟨rfl, rfl⟩

theorem boxes_any (w : World) (g : Nat) (q : Lies) (x : Acc) (h : StoreAt w g q x) (hn : x.boxes.length ≤ 1099511627776) :
    Calls Tryz.prog 25 #[.pointer (some ⟨g, 0, none⟩)] w fun e w' => ∃ v hh, e = .returned v ∧ Sl w' 52 6 v hh x.boxes.length (flatG encB x.boxes) ∧ (∀ b, hh = some b → w.heap.size ≤ b) ∧ Below w.heap.size w w' := by
  have hc := cloneB_any w q.vb x.boxes.length (flatG encB x.boxes) (h.boxes.reads [] (by simp)) (flatG_one encB_one x.boxes) hn
  have c10 := h.cell10
  clear h
  go_enter Tryz.func25, Tryz.ntmps25
  go_wp2_with (first
    | (go_at_call 67; refine hc.mono ?_; rintro e w1 ⟨v, hh, rfl, hs, hb, ho⟩)
    | fail)
  go_ret
  exact ⟨v, hh, rfl, hs, ho, hb⟩

theorem wide_any (w : World) : Calls Tryz.prog 17 #[] w fun e w' => e = .returned (.agg #[.string ⟨#[117]⟩, .string ⟨#[112]⟩, .int .i64 1000, .int .i64 100, .int .i64 1048576, .int .i64 1073741824, .int .i64 1073741824, .int .i64 10000, .int .i64 200]) ∧ Below w.heap.size w w' := by
  go_enter Tryz.func17, Tryz.ntmps17
  go_wp2
  refine bodyPost_ret (v := .agg #[.string ⟨#[117]⟩, .string ⟨#[112]⟩, .int .i64 1000, .int .i64 100, .int .i64 1048576, .int .i64 1073741824, .int .i64 1073741824, .int .i64 10000, .int .i64 200]) ?_ rfl ⟨rfl, ?_⟩
  · simp [results, Tryz.results17, go_sem]
  · exact below_alloc1 w _

end Go.Proofs.YtmbibhphpjmboaaGreatDoor
