/-
  The walk of pillarboxref1.Index from the first place on, at a text that is not empty: where it begins first; the world is as it was.
-/
import Derived.Test.YtogmdfjgedekgaaDoorProg
import Derived.Test.YtogmdfjgedekgaaDoorKit
import Derived.Lib.IndexLaws
namespace Go.Proofs.YtogmdfjgedekgaaDoor
open Go.RowKit Go.Lib

theorem extract_mid (s : ByteArray) (a b : Nat) : (s.extract a b).data.toList = (s.data.toList.drop a).take (b - a) := by
  rw [Lib.extract_data]
theorem occ_iff (s sub : ByteArray) (k : Nat) : occAt s.data.toList sub.data.toList k = true ↔ (s.extract k (k + sub.size)).data.toList = sub.data.toList := by
  unfold occAt
  rw [extract_mid, Nat.add_sub_cancel_left, List.isPrefixOf_iff_prefix, List.prefix_iff_eq_take]
  have : sub.data.toList.length = sub.size := by simp
  rw [this]
  exact ⟨fun h => h.symm, fun h => h.symm⟩

set_option maxRecDepth 100000 in
set_option maxHeartbeats 1000000 in
theorem refIndex_any (s sub : ByteArray) (w : World) (hs : s.size ≤ 140737488351232) (hsub : sub.size ≤ 140737488351232) (h1 : 1 ≤ sub.size) :
    Calls Tryd.prog 26 #[.string s, .string sub, .int .i64 0] w fun e w' => e = .returned (.int .i64 (index s.data.toList sub.data.toList)) ∧ w = w' := by
  obtain ⟨ans, hans⟩ : ∃ ans, index s.data.toList sub.data.toList = ans := ⟨_, rfl⟩
  rw [hans]
  have HANS := Lib.hid hans
  have hl : s.data.toList.length = s.size := by simp
  have hm : sub.data.toList.length = sub.size := by simp
  have HL := Lib.hid hl
  have HM := Lib.hid hm
  clear hans hl hm
  go_enter Tryd.func26, Tryd.ntmps26
  go_wp2
  go_loop [7] (fun i => ∃ k : Nat, k ≤ s.size + 1 ∧ i = .int .i64 k ∧ Hid (NoOcc s.data.toList sub.data.toList k)) (fun i => s.size + 1 - (intOf i).toNat)
  case atStart => exact ⟨0, Nat.zero_le _, rfl, Lib.hid (NoOcc.zero _ _)⟩
  case round =>
    obtain ⟨k, hk, rfl, HU⟩ := hrel
    by_cases hlt : k + sub.size ≤ s.size
    · cases ho : occAt s.data.toList sub.data.toList k with
      | true =>
        have he := (occ_iff s sub k).1 ho
        have hx : ans = (k : Int) := by
          rw [← HANS.out]
          exact index_hit HU.out (by rw [HL.out]; omega) ho
        subst hx
        have hb : ((s.extract k (k + sub.size)).toList == sub.toList) = true := by rw [ByteArray.toList_eq, ByteArray.toList_eq, he]; simp
        clear he ho HANS
        go_wp2
        go_ret
        exact ⟨rfl, rfl⟩
      | false =>
        have he : ¬ (s.extract k (k + sub.size)).data.toList = sub.data.toList := fun h => by
          rw [(occ_iff s sub k).2 h] at ho
          cases ho
        have hb : ((s.extract k (k + sub.size)).toList == sub.toList) = false := by rw [ByteArray.toList_eq, ByteArray.toList_eq, beq_eq_false_iff_ne]; exact he
        have HU2 := Lib.hid (HU.out.succ ho)
        clear he ho
        go_wp2
        go_round
        case rel => exact ⟨k + 1, by omega, by go_num, HU2⟩
        case measure => simp [intOf]; omega
    · have hx : ans = -1 := by
        rw [← HANS.out]
        refine index_past ?_ HU.out (by rw [HL.out, HM.out]; omega)
        intro h
        have := HM.out
        rw [h] at this
        simp at this
        omega
      subst hx
      clear HANS
      go_wp2
      go_ret
      exact ⟨rfl, rfl⟩

end Go.Proofs.YtogmdfjgedekgaaDoor
