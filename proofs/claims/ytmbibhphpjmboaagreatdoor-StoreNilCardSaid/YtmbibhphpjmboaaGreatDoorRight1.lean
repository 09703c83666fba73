/-
  The walk of flag.Right alone (for seats without flag.Key).
-/
import Derived.Test.YtmbibhphpjmboaaGreatDoorAtom
import Derived.Test.YtmbibhphpjmboaaGreatDoorFold
namespace Go.Proofs.YtmbibhphpjmboaaGreatDoor
open Go.RowKit

def rightL (l : List UInt8) : Bool := atomL l && decide (l.length ≤ 64) && (lowL l == l)

set_option maxRecDepth 100000 in
set_option maxHeartbeats 400000 in
theorem right_any (s : ByteArray) (w : World) (hs : s.size ≤ 140737488351232) :
    Calls Tryz.prog 110 #[.string s] w fun e w' => e = .returned (.bool (rightL s.data.toList)) ∧ Below w.heap.size w w' := by
  obtain ⟨b, hb⟩ : ∃ b, rightL s.data.toList = b := ⟨_, rfl⟩
  rw [hb]
  have HB0 := Lib.hid hb
  clear hb
  obtain ⟨a, ha⟩ : ∃ a, atomL s.data.toList = a := ⟨_, rfl⟩
  have hat := atom_any s
  rw [ha] at hat
  have HA := Lib.hid ha
  clear ha
  go_enter Tryz.func110, Tryz.ntmps110
  cases a
  · go_wp2_with (first | (go_at_call 48; refine (hat _ hs).mono ?_; rintro e w' ⟨rfl, rfl⟩) | (go_at_call 127; refine (fold_any _ _ hs).mono ?_; rintro e w' ⟨rfl, hb⟩))
    go_ret
    exact ⟨ret_bool (by rw [← HB0.out, rightL, HA.out]; rfl), Below.refl _ _⟩
  · go_wp2_with (first | (go_at_call 48; refine (hat _ hs).mono ?_; rintro e w' ⟨rfl, rfl⟩) | (go_at_call 127; refine (fold_any _ _ hs).mono ?_; rintro e w' ⟨rfl, hb⟩))
    · go_ret
      refine ⟨ret_bool ?_, hb⟩
      rw [← HB0.out, rightL, HA.out, toList_beqB, decide_eq_true (by rw [lenB]; omega)]
      rfl
    · go_ret
      refine ⟨ret_bool ?_, Below.refl _ _⟩
      rw [← HB0.out, rightL, decide_eq_false (by rw [lenB]; omega)]
      simp

end Go.Proofs.YtmbibhphpjmboaaGreatDoor
