/-
  The walk of text.Fold: letters A to Z made small; nothing that was there turns.
-/
import Derived.Test.YtnfabgbidkddhaaDoorPlain
import Derived.Test.YtnfabgbidkddhaaDoorProg
import Derived.Test.YtnfabgbidkddhaaDoorKit
namespace Go.Proofs.YtnfabgbidkddhaaDoor
open Go.RowKit

theorem Try.info5 : (Tryd.prog.info? 5).map (fun i => (i.zero, i.size, i.bytes)) = some (some (.int .u8 0), 1, 1) := by kernel_rfl

set_option maxRecDepth 100000 in
set_option maxHeartbeats 400000 in
theorem fold_any (s : ByteArray) (w : World) (hs : s.size ≤ 140737488351232) :
    Calls Tryd.prog 14 #[.string s] w fun e w' => e = .returned (.string (lowS s)) ∧ Below w.heap.size w w' := by
  obtain ⟨i0, hi, hz0, hz1, hz2⟩ := info_parts Try.info5
  go_enter Tryd.func14, Tryd.ntmps14
  go_wp2_with (at_make; refine wpList_make_own _ rfl _ _ 65 rfl w.heap.size 5 i0 (.int .u8 0) 1 Tryd.underlying65 hi hz0 hz1 _ _ _ s.size rfl rfl rfl ?c1 ?c2 ?c3 ?_)
  case c1 => rw [hz2]; omega
  case c2 => unfold maxLen; omega
  case c3 => exact Nat.le_refl _
  intro w1 hown0 hg0
  go_wp2
  go_loopw [3, 11] (fun b i wr => ∃ k : Nat, k ≤ s.size ∧ i = .int .i64 k ∧ wr.ownsRow w.heap.size 5 1 b k ((lowNs (s.data.toList.take k)).map (Value.int .u8)) ∧ w.heap.size ≤ wr.heap.size ∧ Below w.heap.size w wr) (fun _ i _ => s.size - (intOf i).toNat)
  case atStart => exact ⟨0, Nat.zero_le _, rfl, by simpa [lowNs] using hown0, hg0.size, (Below.refl _ _).grown hg0 (Nat.le_refl _) (fun _ h => by cases h)⟩
  case round =>
    obtain ⟨k, hk, rfl, hown, hsz, hb⟩ := hrel
    by_cases hlt : k < s.size
    · go_wp2_with (at_builtin; refine wpList_append_new rfl _ _ 65 rfl Tryd.underlying65 hi hz0 hz1 hz2 rfl (by decide) hown rfl 1 1 rfl rfl ?_ ?_ ?_ ?_ ?_)
      all_goals first | rfl | omega | (unfold maxLen; omega) | skip
      all_goals
        intro v2 w2 hown2 hg2 _
        have hx := lowNs_snoc s k hlt _ (by first | exact lowN_big _ ‹_› ‹_› | exact lowN_other _ (by omega))
        have hown3 : w2.ownsRow w.heap.size 5 1 v2 (k + 1) ((lowNs (s.data.toList.take (k + 1))).map (Value.int .u8)) := by rw [← hx]; exact hown2
        have hsz2 : w.heap.size ≤ w2.heap.size := Nat.le_trans hsz hg2.size
        have hb2 : Below w.heap.size w w2 := hb.grown hg2 hsz (fun j hj => (hown.lt j hj).1)
        clear hx hown2
        go_wp2
        refine ⟨?_, by simp [intOf]; omega⟩
        first | exact ⟨k + 1, by omega, by go_num, hown3, hsz2, hb2⟩ | ((repeat apply Exists.intro); exact ⟨⟨k + 1, by omega, by go_num, hown3, hsz2, hb2⟩, rfl⟩)
    · have hk2 : k = s.size := by omega
      subst hk2
      rw [take_allB s _ (Nat.le_refl _)] at hown
      have hconv := run_string_own (P := Tryd.prog) Tryd.underlying65 Tryd.underlying5 hown 9 Tryd.underlying9
      rw [strOf_lowNs] at hconv
      go_wp2
      go_ret
      exact ⟨rfl, hb⟩

end Go.Proofs.YtnfabgbidkddhaaDoor
