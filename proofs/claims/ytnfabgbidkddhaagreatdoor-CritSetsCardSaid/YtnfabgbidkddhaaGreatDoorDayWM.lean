/-
  The walks of date's days, long, number, month: nothing that was there turns.
-/
import Derived.Test.YtnfabgbidkddhaaGreatDoorDayPlainM
import Derived.Test.YtnfabgbidkddhaaGreatDoorGCA
import Derived.Test.YtnfabgbidkddhaaGreatDoorGCB
import Derived.Deep.QuietTactic
import Derived.Deep.DeepCutAuto
import Derived.BigQuiet
namespace Go.Proofs.YtnfabgbidkddhaaGreatDoor
open Go.RowKit

set_option maxRecDepth 100000 in
set_option maxHeartbeats 1000000 in
theorem days_anyD (y m d : Int) (w : World) (hy : 0 ≤ y ∧ y ≤ 9999) (hm : 1 ≤ m ∧ m ≤ 12) (hd : 1 ≤ d ∧ d ≤ 99) :
    Calls Tryz.prog 184 #[.int .i64 y, .int .i64 m, .int .i64 d] w fun e w' => e = .returned (.int .i64 (daysP y m d)) ∧ w = w' := by
  obtain ⟨hy1, hy2⟩ := hy
  obtain ⟨hm1, hm2⟩ := hm
  obtain ⟨hd1, hd2⟩ := hd
  by_cases h2 : m ≤ 2
  · go_enter Tryz.func184, Tryz.ntmps184
    go_wp2
    go_ret
    exact ⟨ret_int (by simp [daysP, h2]), rfl⟩
  · go_enter Tryz.func184, Tryz.ntmps184
    go_wp2
    go_ret
    exact ⟨ret_int (by unfold daysP; dsimp only; rw [if_neg (by omega)]), rfl⟩

theorem daysP_rng (y m d : Int) (hy : 0 ≤ y ∧ y ≤ 9999) (_hm : 1 ≤ m ∧ m ≤ 12) (hd : 1 ≤ d ∧ d ≤ 99) : -800000 ≤ daysP y m d ∧ daysP y m d ≤ 4000000 := by
  unfold daysP
  dsimp only
  split <;> omega

set_option maxRecDepth 100000 in
set_option maxHeartbeats 1000000 in
theorem long_anyD (y m : Int) (w : World) (hy : 0 ≤ y ∧ y ≤ 9999) (hm : 1 ≤ m ∧ m ≤ 12) :
    Calls Tryz.prog 183 #[.int .i64 y, .int .i64 m] w fun e w' => e = .returned (.int .i64 (longP y m)) ∧ w = w' := by
  obtain ⟨r, hr⟩ : ∃ r, longP y m = r := ⟨_, rfl⟩
  rw [hr]
  unfold longP at hr
  by_cases h12 : m = 12
  · rw [if_pos h12] at hr
    subst h12
    subst hr
    clear hy hm
    go_enter Tryz.func183, Tryz.ntmps183
    go_wp2
    go_ret
    exact ⟨rfl, rfl⟩
  · rw [if_neg h12] at hr
    have c1 := fun W => days_anyD y (m + 1) 1 W hy (by omega) (by omega)
    have c2 := fun W => days_anyD y m 1 W hy hm (by omega)
    have r1 := daysP_rng y (m + 1) 1 hy (by omega) (by omega)
    have r2 := daysP_rng y m 1 hy hm (by omega)
    generalize daysP y (m + 1) 1 = a at c1 r1 hr
    generalize daysP y m 1 = b at c2 r2 hr
    obtain ⟨r11, r12⟩ := r1
    obtain ⟨r21, r22⟩ := r2
    have HR := Lib.hid hr
    obtain ⟨hm1, hm2⟩ := hm
    clear hy hr
    go_enter Tryz.func183, Tryz.ntmps183
    go_wp2_with (first
      | (go_at_call 184; with_reducible refine (c1 _).mono ?_; rintro e w2 ⟨rfl, rfl⟩)
      | (go_at_call 184; with_reducible refine (c2 _).mono ?_; rintro e w2 ⟨rfl, rfl⟩)
      | fail)
    go_ret
    exact ⟨ret_int HR.out, rfl⟩

set_option maxRecDepth 100000 in
set_option maxHeartbeats 1000000 in
theorem number_anyD (s : ByteArray) (w : World) (hs : s.size ≤ 15) :
    Calls Tryz.prog 181 #[.string s] w fun e w' => e = .returned (.tuple #[.int .i64 (digL s.data.toList).1, .bool (digL s.data.toList).2]) ∧ w = w' := by
  obtain ⟨r, b, hb⟩ : ∃ r b, digL s.data.toList = (r, b) := ⟨_, _, rfl⟩
  rw [hb]
  by_cases he : s = ByteArray.empty
  · subst he
    injection hb with h1 h2
    subst h1 h2
    go_enter Tryz.func181, Tryz.ntmps181
    go_wp2_with fail
    refine wp_loop_rounds 1 ?_
    rw [rounds_succ]
    go_wp2
    go_ret2
    exact ⟨rfl, rfl⟩
  · have hne : s.toList.isEmpty = false := by
      rw [ByteArray.toList_eq, List.isEmpty_eq_false_iff]
      exact fun h => he (of_dataL s [] h)
    have hnd : s.data.toList ≠ [] := fun h => he (of_dataL s [] h)
    unfold digL at hb
    rw [if_neg hnd] at hb
    have HB := Lib.hid hb
    clear hb he hnd
    go_enter Tryz.func181, Tryz.ntmps181
    go_wp2_with fail
    go_loop [4, 8] (fun n i => ∃ (k : Nat) (v : Int), k ≤ s.size ∧ i = .int .i64 k ∧ n = .int .i64 v ∧ Hid (numGo (s.data.toList.drop k) v = numGo s.data.toList 0) ∧ Hid (0 ≤ v ∧ v < 10 ^ k)) (fun _ i => s.size - (intOf i).toNat)
    case atStart => exact ⟨0, 0, Nat.zero_le _, rfl, rfl, Lib.hid rfl, Lib.hid ⟨by decide, by decide⟩⟩
    case round =>
      obtain ⟨k, v, hk, rfl, rfl, HG, HV⟩ := hrel
      have v0 : 0 ≤ v := HV.out.1
      have v9 : v < 1000000000000000 := by
        have h2 : ∀ j : Nat, j ≤ 15 → (10 : Int) ^ j ≤ 1000000000000000 := by decide
        have := h2 k (by omega)
        have := HV.out.2
        omega
      by_cases hlt : k < s.size
      · by_cases h1 : (s[k].toNat : Int) < 48
        · have hn := HB.out
          rw [← HG.out, numGo_bad s k hlt v (.inl h1)] at hn
          injection hn with hn1 hn2
          subst hn1 hn2
          clear HG HV HB
          go_wp2_with fail
          go_ret2
          exact ⟨rfl, rfl⟩
        · by_cases h2 : 57 < (s[k].toNat : Int)
          · have hn := HB.out
            rw [← HG.out, numGo_bad s k hlt v (.inr h2)] at hn
            injection hn with hn1 hn2
            subst hn1 hn2
            clear HG HV HB
            go_wp2_with fail
            go_ret2
            exact ⟨rfl, rfl⟩
          · have HG2 := Lib.hid ((numGo_step s k hlt v h1 h2).symm.trans HG.out)
            have hp := pow10_step HV.out.1 HV.out.2 (show 0 ≤ (s[k].toNat : Int) - 48 by omega) (show (s[k].toNat : Int) - 48 ≤ 9 by omega)
            have HP := Lib.hid hp
            clear hp HG HV HB
            go_wp2_with fail
            go_round
            case rel => exact ⟨k + 1, _, by omega, by go_num, rfl, HG2, Lib.hid ⟨by omega, HP.out⟩⟩
            case measure => simp [intOf]; omega
      · have hk2 : k = s.size := by omega
        subst hk2
        have hn := HB.out
        rw [← HG.out, numGo_end] at hn
        injection hn with hn1 hn2
        subst hn1 hn2
        clear HG HV HB
        go_wp2_with fail
        go_ret2
        exact ⟨rfl, rfl⟩

/-- Some number, and whether it is one. -/
def SomeNum (e : Ending) : Prop := ∃ (n : Int) (b : Bool), e = .returned (.tuple #[.int .i64 n, .bool b])

set_option maxRecDepth 100000 in
set_option maxHeartbeats 1000000 in
theorem number_longD (s : ByteArray) (w : World) (hs : s.size ≤ 140737488351232) :
    Calls Tryz.prog 181 #[.string s] w fun e w' => SomeNum e ∧ w = w' := by
  go_enter Tryz.func181, Tryz.ntmps181
  go_wp2_with fail
  go_loop [4, 8] (fun n i => ∃ (k : Nat) (v : Int), k ≤ s.size ∧ i = .int .i64 k ∧ n = .int .i64 v) (fun _ i => s.size - (intOf i).toNat)
  case atStart => exact ⟨0, 0, Nat.zero_le _, rfl, rfl⟩
  case round =>
    obtain ⟨k, v, hk, rfl, rfl⟩ := hrel
    by_cases hlt : k < s.size
    · by_cases h1 : (s[k].toNat : Int) < 48
      · go_wp2_with fail
        go_ret2
        exact ⟨⟨_, _, rfl⟩, rfl⟩
      · by_cases h2 : 57 < (s[k].toNat : Int)
        · go_wp2_with fail
          go_ret2
          exact ⟨⟨_, _, rfl⟩, rfl⟩
        · go_wp2_with fail
          go_round
          case rel => exact ⟨k + 1, _, by omega, by go_num, rfl⟩
          case measure => simp [intOf]; omega
    · have hk2 : k = s.size := by omega
      subst hk2
      go_wp2_with fail
      go_ret2
      exact ⟨⟨_, _, rfl⟩, rfl⟩

end Go.Proofs.YtnfabgbidkddhaaGreatDoor
