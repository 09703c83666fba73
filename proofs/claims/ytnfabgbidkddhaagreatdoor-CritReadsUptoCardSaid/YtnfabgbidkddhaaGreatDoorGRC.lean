/-
  The walks of date's days, long, number, month: nothing that was there turns.
  The walks of date's month, date, ReadDay: the day that a text tells; nothing that was there turns.
  The walk of date.ReadDay: the day that a text tells, or that there is none; nothing that was there turns.
  The walks of crit's number, day.
-/
import Derived.Test.YtnfabgbidkddhaaGreatDoorGRA
import Derived.Test.YtnfabgbidkddhaaGreatDoorGCA
import Derived.Test.YtnfabgbidkddhaaGreatDoorGCB
import Derived.Test.YtnfabgbidkddhaaGreatDoorGRB
import Derived.Deep.QuietTactic
import Derived.Deep.DeepCutAuto
import Derived.BigQuiet
import Derived.Deep.RegionWith
import Derived.Deep.RegionHeld3
import Derived.Deep.DrawnRows
namespace Go.Proofs.YtnfabgbidkddhaaGreatDoor
open Go.RowKit

set_option maxRecDepth 100000 in
set_option maxHeartbeats 1000000 in
theorem days_anyD (y m d : Int) (w : World) (hy : 0 ≤ y ∧ y ≤ 9999) (hm : 1 ≤ m ∧ m ≤ 12) (hd : 1 ≤ d ∧ d ≤ 99) :
    Calls Tryz.prog 184 #[.int .i64 y, .int .i64 m, .int .i64 d] w fun e w' => e = .returned (.int .i64 (daysP y m d)) ∧ w = w' := by
  obtain ⟨hy1, hy2⟩ := hy
  obtain ⟨hm1, hm2⟩ := hm
  obtain ⟨hd1, hd2⟩ := hd
  by_cases h2 : m ≤ 2
  · go_enter Tryz.func184, Tryz.ntmps184
    go_wp2
    go_ret
    exact ⟨ret_int (by simp [daysP, h2]), rfl⟩
  · go_enter Tryz.func184, Tryz.ntmps184
    go_wp2
    go_ret
    exact ⟨ret_int (by unfold daysP; dsimp only; rw [if_neg (by omega)]), rfl⟩

theorem daysP_rng (y m d : Int) (hy : 0 ≤ y ∧ y ≤ 9999) (_hm : 1 ≤ m ∧ m ≤ 12) (hd : 1 ≤ d ∧ d ≤ 99) : -800000 ≤ daysP y m d ∧ daysP y m d ≤ 4000000 := by
  unfold daysP
  dsimp only
  split <;> omega

set_option maxRecDepth 100000 in
set_option maxHeartbeats 1000000 in
theorem long_anyD (y m : Int) (w : World) (hy : 0 ≤ y ∧ y ≤ 9999) (hm : 1 ≤ m ∧ m ≤ 12) :
    Calls Tryz.prog 183 #[.int .i64 y, .int .i64 m] w fun e w' => e = .returned (.int .i64 (longP y m)) ∧ w = w' := by
  obtain ⟨r, hr⟩ : ∃ r, longP y m = r := ⟨_, rfl⟩
  rw [hr]
  unfold longP at hr
  by_cases h12 : m = 12
  · rw [if_pos h12] at hr
    subst h12
    subst hr
    clear hy hm
    go_enter Tryz.func183, Tryz.ntmps183
    go_wp2
    go_ret
    exact ⟨rfl, rfl⟩
  · rw [if_neg h12] at hr
    have c1 := fun W => days_anyD y (m + 1) 1 W hy (by omega) (by omega)
    have c2 := fun W => days_anyD y m 1 W hy hm (by omega)
    have r1 := daysP_rng y (m + 1) 1 hy (by omega) (by omega)
    have r2 := daysP_rng y m 1 hy hm (by omega)
    generalize daysP y (m + 1) 1 = a at c1 r1 hr
    generalize daysP y m 1 = b at c2 r2 hr
    obtain ⟨r11, r12⟩ := r1
    obtain ⟨r21, r22⟩ := r2
    have HR := Lib.hid hr
    obtain ⟨hm1, hm2⟩ := hm
    clear hy hr
    go_enter Tryz.func183, Tryz.ntmps183
    go_wp2_with (first
      | (go_at_call 184; with_reducible refine (c1 _).mono ?_; rintro e w2 ⟨rfl, rfl⟩)
      | (go_at_call 184; with_reducible refine (c2 _).mono ?_; rintro e w2 ⟨rfl, rfl⟩)
      | fail)
    go_ret
    exact ⟨ret_int HR.out, rfl⟩

set_option maxRecDepth 100000 in
set_option maxHeartbeats 1000000 in
theorem number_anyD (s : ByteArray) (w : World) (hs : s.size ≤ 15) :
    Calls Tryz.prog 181 #[.string s] w fun e w' => e = .returned (.tuple #[.int .i64 (digL s.data.toList).1, .bool (digL s.data.toList).2]) ∧ w = w' := by
  obtain ⟨r, b, hb⟩ : ∃ r b, digL s.data.toList = (r, b) := ⟨_, _, rfl⟩
  rw [hb]
  by_cases he : s = ByteArray.empty
  · subst he
    injection hb with h1 h2
    subst h1 h2
    go_enter Tryz.func181, Tryz.ntmps181
    go_wp2_with fail
    refine wp_loop_rounds 1 ?_
    rw [rounds_succ]
    go_wp2
    go_ret2
    exact ⟨rfl, rfl⟩
  · have hne : s.toList.isEmpty = false := by
      rw [ByteArray.toList_eq, List.isEmpty_eq_false_iff]
      exact fun h => he (of_dataL s [] h)
    have hnd : s.data.toList ≠ [] := fun h => he (of_dataL s [] h)
    unfold digL at hb
    rw [if_neg hnd] at hb
    have HB := Lib.hid hb
    clear hb he hnd
    go_enter Tryz.func181, Tryz.ntmps181
    go_wp2_with fail
    go_loop [4, 8] (fun n i => ∃ (k : Nat) (v : Int), k ≤ s.size ∧ i = .int .i64 k ∧ n = .int .i64 v ∧ Hid (numGo (s.data.toList.drop k) v = numGo s.data.toList 0) ∧ Hid (0 ≤ v ∧ v < 10 ^ k)) (fun _ i => s.size - (intOf i).toNat)
    case atStart => exact ⟨0, 0, Nat.zero_le _, rfl, rfl, Lib.hid rfl, Lib.hid ⟨by decide, by decide⟩⟩
    case round =>
      obtain ⟨k, v, hk, rfl, rfl, HG, HV⟩ := hrel
      have v0 : 0 ≤ v := HV.out.1
      have v9 : v < 1000000000000000 := by
        have h2 : ∀ j : Nat, j ≤ 15 → (10 : Int) ^ j ≤ 1000000000000000 := by decide
        have := h2 k (by omega)
        have := HV.out.2
        omega
      by_cases hlt : k < s.size
      · by_cases h1 : (s[k].toNat : Int) < 48
        · have hn := HB.out
          rw [← HG.out, numGo_bad s k hlt v (.inl h1)] at hn
          injection hn with hn1 hn2
          subst hn1 hn2
          clear HG HV HB
          go_wp2_with fail
          go_ret2
          exact ⟨rfl, rfl⟩
        · by_cases h2 : 57 < (s[k].toNat : Int)
          · have hn := HB.out
            rw [← HG.out, numGo_bad s k hlt v (.inr h2)] at hn
            injection hn with hn1 hn2
            subst hn1 hn2
            clear HG HV HB
            go_wp2_with fail
            go_ret2
            exact ⟨rfl, rfl⟩
          · have HG2 := Lib.hid ((numGo_step s k hlt v h1 h2).symm.trans HG.out)
            have hp := pow10_step HV.out.1 HV.out.2 (show 0 ≤ (s[k].toNat : Int) - 48 by omega) (show (s[k].toNat : Int) - 48 ≤ 9 by omega)
            have HP := Lib.hid hp
            clear hp HG HV HB
            go_wp2_with fail
            go_round
            case rel => exact ⟨k + 1, _, by omega, by go_num, rfl, HG2, Lib.hid ⟨by omega, HP.out⟩⟩
            case measure => simp [intOf]; omega
      · have hk2 : k = s.size := by omega
        subst hk2
        have hn := HB.out
        rw [← HG.out, numGo_end] at hn
        injection hn with hn1 hn2
        subst hn1 hn2
        clear HG HV HB
        go_wp2_with fail
        go_ret2
        exact ⟨rfl, rfl⟩

/-- Some number, and whether it is one. -/
def SomeNum (e : Ending) : Prop := ∃ (n : Int) (b : Bool), e = .returned (.tuple #[.int .i64 n, .bool b])

set_option maxRecDepth 100000 in
set_option maxHeartbeats 1000000 in
theorem number_longD (s : ByteArray) (w : World) (hs : s.size ≤ 140737488351232) :
    Calls Tryz.prog 181 #[.string s] w fun e w' => SomeNum e ∧ w = w' := by
  go_enter Tryz.func181, Tryz.ntmps181
  go_wp2_with fail
  go_loop [4, 8] (fun n i => ∃ (k : Nat) (v : Int), k ≤ s.size ∧ i = .int .i64 k ∧ n = .int .i64 v) (fun _ i => s.size - (intOf i).toNat)
  case atStart => exact ⟨0, 0, Nat.zero_le _, rfl, rfl⟩
  case round =>
    obtain ⟨k, v, hk, rfl, rfl⟩ := hrel
    by_cases hlt : k < s.size
    · by_cases h1 : (s[k].toNat : Int) < 48
      · go_wp2_with fail
        go_ret2
        exact ⟨⟨_, _, rfl⟩, rfl⟩
      · by_cases h2 : 57 < (s[k].toNat : Int)
        · go_wp2_with fail
          go_ret2
          exact ⟨⟨_, _, rfl⟩, rfl⟩
        · go_wp2_with fail
          go_round
          case rel => exact ⟨k + 1, _, by omega, by go_num, rfl⟩
          case measure => simp [intOf]; omega
    · have hk2 : k = s.size := by omega
      subst hk2
      go_wp2_with fail
      go_ret2
      exact ⟨⟨_, _, rfl⟩, rfl⟩

end Go.Proofs.YtnfabgbidkddhaaGreatDoor

namespace Go.Proofs.YtnfabgbidkddhaaGreatDoor
open Go.RowKit

theorem belowD {w w1 w2 : World} (h : Below w.heap.size w w1) (h2 : Below w1.heap.size w1 w2) : Below w.heap.size w w2 := h.trans (h2.mono h.size)
theorem belowDD {w w2 : World} (h2 : Below w.drew.heap.size w.drew w2) : Below w.heap.size w w2 := ⟨h2.os, h2.tape, h2.output, h2.size, h2.block⟩

theorem monthL_hit (l : List UInt8) (k : Nat) (hk : k < 12) (h : ∀ j, j < k → monthNames[j]? ≠ some (lowL l)) (he : monthNames[k]? = some (lowL l)) : monthL l = (k : Int) + 1 := by
  have hf : monthNames.findIdx? (fun m => m == lowL l) = some k := by
    rw [List.findIdx?_eq_some_iff_getElem]
    refine ⟨by simpa [monthNames] using hk, ?_, fun j hj => ?_⟩
    · have := List.getElem?_eq_some_iff.1 he
      obtain ⟨h1, h2⟩ := this
      rw [h2]
      simp
    · have h1 := h j hj
      rw [List.getElem?_eq_getElem (by simp [monthNames]; omega)] at h1
      simp only [Option.some.injEq, ne_eq] at h1
      simpa using h1
  unfold monthL
  rw [hf]
theorem monthL_miss (l : List UInt8) (h : ∀ j, j < 12 → monthNames[j]? ≠ some (lowL l)) : monthL l = 0 := by
  have hf : monthNames.findIdx? (fun m => m == lowL l) = none := by
    rw [List.findIdx?_eq_none_iff]
    intro x hx
    obtain ⟨j, hj, rfl⟩ := List.getElem_of_mem hx
    have h1 := h j (by simpa [monthNames] using hj)
    rw [List.getElem?_eq_getElem hj] at h1
    simp only [Option.some.injEq, ne_eq] at h1
    simpa using h1
  unfold monthL
  rw [hf]
def yearText : ByteArray := ⟨#[74, 97, 110, 70, 101, 98, 77, 97, 114, 65, 112, 114, 77, 97, 121, 74, 117, 110, 74, 117, 108, 65, 117, 103, 83, 101, 112, 79, 99, 116, 78, 111, 118, 68, 101, 99]⟩
theorem year_month (k : Nat) (hk : k < 12) : monthNames[k]? = some (lowL (yearText.extract (3 * k) (3 * k + 3)).data.toList) ∧ (yearText.extract (3 * k) (3 * k + 3)).size = 3 := by
  have : ∀ k, k < 12 → monthNames[k]? = some (lowL (yearText.extract (3 * k) (3 * k + 3)).data.toList) ∧ (yearText.extract (3 * k) (3 * k + 3)).size = 3 := by decide +kernel
  exact this k hk

set_option maxRecDepth 100000 in
set_option maxHeartbeats 2000000 in
theorem month_anyD (s : ByteArray) (w : World) (hs : s.size ≤ 140737488351232) :
    Calls Tryz.prog 182 #[.string s] w fun e w' => e = .returned (.int .i64 (monthL s.data.toList)) ∧ Below w.heap.size w w' := by
  obtain ⟨r, hr⟩ : ∃ r, monthL s.data.toList = r := ⟨_, rfl⟩
  rw [hr]
  have hf := fun W => fold_any s W hs
  have ht : (lowS s).toList = lowL s.data.toList := by rw [ByteArray.toList_eq]; rfl
  have HR := Lib.hid hr
  have HT := Lib.hid ht
  generalize lowS s = fs at hf HT
  clear hr ht hs
  go_enter Tryz.func182, Tryz.ntmps182
  go_wp2_with fail
  go_loopw [3] (fun i wr => ∃ k : Nat, k ≤ 12 ∧ i = .int .i64 ((k : Int) + 1) ∧ Hid (∀ j, j < k → monthNames[j]? ≠ some (lowL s.data.toList)) ∧ Hid (Below w.heap.size w wr)) (fun i _ => 13 - (intOf i).toNat)
  case atStart => exact ⟨0, by omega, rfl, Lib.hid (fun j hj => by omega), Lib.hid (Below.refl _ _)⟩
  case round =>
    obtain ⟨k, hk, rfl, HU, HB⟩ := hrel
    by_cases hlt : k < 12
    · obtain ⟨hn1, hn2⟩ := year_month k hlt
      obtain ⟨a, ha⟩ : ∃ a, 3 * k = a := ⟨_, rfl⟩
      obtain ⟨c, hc⟩ : ∃ c, 3 * k + 3 = c := ⟨_, rfl⟩
      rw [ha, ← ha, hc, ha] at hn1 hn2
      have e1 : IntKind.i64.wrap ((c : Int) - 3) = (a : Int) := by rw [IntWalk.i64_in _ (by omega)]; omega
      have e2 : IntKind.i64.wrap (3 * ((k : Int) + 1)) = (c : Int) := by rw [IntWalk.i64_in _ (by omega)]; omega
      have b1 : (0 : Int) ≤ (c : Int) := by omega
      have b2 : (c : Int) ≤ 36 := by omega
      have b3 : (0 : Int) ≤ (a : Int) := by omega
      have b4 : (a : Int) ≤ (c : Int) := by omega
      have ec : c ≤ 36 := by omega
      have eac : a ≤ c := by omega
      have hyt : (⟨#[74, 97, 110, 70, 101, 98, 77, 97, 114, 65, 112, 114, 77, 97, 121, 74, 117, 110, 74, 117, 108, 65, 117, 103, 83, 101, 112, 79, 99, 116, 78, 111, 118, 68, 101, 99]⟩ : ByteArray).extract a c = yearText.extract a c := rfl
      generalize yearText.extract a c = nm at hn1 hn2 hyt
      have hf2 := fun W => fold_any nm W (by omega)
      have ht2 : (lowS nm).toList = lowL nm.data.toList := by rw [ByteArray.toList_eq]; rfl
      rw [← ht2] at hn1
      generalize lowS nm = fn at hf2 hn1
      have hmn : k ≤ 11 := by omega
      clear ha hc ht2 hn2
      by_cases he : fs.toList = fn.toList
      · have hcmp : (fs.toList == fn.toList) = true := by simpa using he
        have hm := monthL_hit s.data.toList k hlt HU.out (by rw [hn1, ← he, HT.out])
        rw [HR.out] at hm
        subst hm
        have HB0 := HB
        clear hn1 he HU
        go_wp2_with fail
        go_region_with (first
          | (go_at_call 40; with_reducible refine (hf _).mono ?_; rintro e w2 ⟨rfl, hb2⟩; have HB2 := Lib.hid hb2; clear hb2)
          | (go_at_call 40; with_reducible refine (hf2 _).mono ?_; rintro e w3 ⟨rfl, hb3⟩; have HB3 := Lib.hid hb3; clear hb3)
          | fail)
        all_goals
          have HB4 := Lib.hid (belowD (belowD HB0.out (belowDD HB2.out)) HB3.out)
          go_wp2
          go_ret
          exact ⟨rfl, HB4.out⟩
      · have hcmp : (fs.toList == fn.toList) = false := by simpa using he
        have HU2 : Hid (∀ j, j < k + 1 → monthNames[j]? ≠ some (lowL s.data.toList)) := Lib.hid (by
          intro j hj
          by_cases hjk : j = k
          · subst hjk
            rw [hn1, ← HT.out]
            intro h
            injection h with h
            exact he h.symm
          · exact HU.out j (by omega))
        have HB0 := HB
        clear hn1 he HU
        go_wp2_with fail
        go_region_with (first
          | (go_at_call 40; with_reducible refine (hf _).mono ?_; rintro e w2 ⟨rfl, hb2⟩; have HB2 := Lib.hid hb2; clear hb2)
          | (go_at_call 40; with_reducible refine (hf2 _).mono ?_; rintro e w3 ⟨rfl, hb3⟩; have HB3 := Lib.hid hb3; clear hb3)
          | fail)
        all_goals
          have HB4 := Lib.hid (belowD (belowD HB0.out (belowDD HB2.out)) HB3.out)
          go_wp2
          refine ⟨?_, by simp [intOf]; omega⟩
          first | exact ⟨k + 1, by omega, by go_num, HU2, HB4⟩ | ((repeat apply Exists.intro); exact ⟨⟨k + 1, by omega, by go_num, HU2, HB4⟩, rfl⟩)
    · have hk12 : k = 12 := by omega
      subst hk12
      have hm := monthL_miss s.data.toList HU.out
      rw [HR.out] at hm
      subst hm
      go_wp2
      go_ret
      exact ⟨rfl, HB.out⟩

theorem monthL_rng (l : List UInt8) : 0 ≤ monthL l ∧ monthL l ≤ 12 := by
  unfold monthL
  split
  · omega
  · rename_i k hk
    have h1 := List.findIdx?_eq_some_iff_getElem.1 hk
    obtain ⟨h2, _⟩ := h1
    have h3 : monthNames.length = 12 := rfl
    omega
theorem numGo_bound : ∀ (l : List UInt8) (n m : Int) (k : Nat), 0 ≤ n → n < 10 ^ k → numGo l n = some m → 0 ≤ m ∧ m < 10 ^ (k + l.length)
  | [], n, m, k, h0, h1, h => by
    injection h with h
    subst h
    exact ⟨h0, by simpa using h1⟩
  | c :: r, n, m, k, h0, h1, h => by
    unfold numGo at h
    split at h
    · cases h
    · rename_i hc
      have h2 := pow10_step h0 h1 (show 0 ≤ (c.toNat : Int) - 48 by omega) (show (c.toNat : Int) - 48 ≤ 9 by omega)
      have h3 := numGo_bound r _ m (k + 1) (by omega) h2 h
      rw [List.length_cons, show k + (r.length + 1) = k + 1 + r.length from by omega]
      exact h3
theorem digL_rng (l : List UInt8) : 0 ≤ (digL l).1 ∧ (digL l).1 < 10 ^ l.length := by
  unfold digL
  have hp : (0 : Int) < 10 ^ l.length := by exact_mod_cast Nat.pos_of_ne_zero (by simp)
  split
  · exact ⟨Int.le_refl _, by simpa using hp⟩
  · split
    · exact ⟨Int.le_refl _, by simpa using hp⟩
    · rename_i n hn
      have := numGo_bound l 0 n 0 (Int.le_refl _) (by decide) hn
      simpa using this

/-- What date hands back. -/
def dateR (a b c : List UInt8) : Int × Bool := match dateL a b c with
  | none => (0, false)
  | some d => (d, true)
theorem dateR_none {a b c : List UInt8} (h : ¬ ((digL a).2 = true ∧ (digL c).2 = true ∧ c.length = 4 ∧ monthL b ≠ 0 ∧ 1 ≤ (digL a).1 ∧ (digL a).1 ≤ longP (digL c).1 (monthL b))) : dateR a b c = (0, false) := by
  unfold dateR dateL
  rw [if_neg h]

set_option maxRecDepth 100000 in
set_option maxHeartbeats 4000000 in
theorem date_anyD (a b c : ByteArray) (w : World) (ha : a.size ≤ 2) (hb : b.size ≤ 140737488351232) (hc : c.size ≤ 140737488351232) :
    Calls Tryz.prog 166 #[.string a, .string b, .string c] w fun e w' => e = .returned (.tuple #[.int .i64 (dateR a.data.toList b.data.toList c.data.toList).1, .bool (dateR a.data.toList b.data.toList c.data.toList).2]) ∧ Below w.heap.size w w' := by
  have hna := fun W => number_anyD a W (by omega)
  have hda := digL_rng a.data.toList
  have hma := fun W => month_anyD b W hb
  have hrm := monthL_rng b.data.toList
  have hnone := @dateR_none a.data.toList b.data.toList c.data.toList
  have hsome : (digL a.data.toList).2 = true → (digL c.data.toList).2 = true → c.data.toList.length = 4 → monthL b.data.toList ≠ 0 → 1 ≤ (digL a.data.toList).1 → (digL a.data.toList).1 ≤ longP (digL c.data.toList).1 (monthL b.data.toList) → dateR a.data.toList b.data.toList c.data.toList = (daysP (digL c.data.toList).1 (monthL b.data.toList) (digL a.data.toList).1, true) := by
    intro h1 h2 h3 h4 h5 h6
    unfold dateR dateL
    rw [if_pos ⟨h1, h2, h3, h4, h5, h6⟩]
  have hd99 : (digL a.data.toList).1 ≤ 99 := by
    have h2 : ∀ j : Nat, j ≤ 2 → (10 : Int) ^ j ≤ 100 := by decide
    have := h2 a.data.toList.length (by rw [lenB]; omega)
    omega
  rw [lenB c] at hnone hsome
  by_cases hc15 : c.size ≤ 15
  · have hnc := fun W => number_anyD c W hc15
    have hdc := digL_rng c.data.toList
    rw [lenB] at hdc
    generalize dateR a.data.toList b.data.toList c.data.toList = rr at hnone hsome
    generalize digL a.data.toList = da at hna hda hnone hsome hd99
    generalize digL c.data.toList = dc at hnc hdc hnone hsome
    generalize monthL b.data.toList = m at hma hrm hnone hsome
    obtain ⟨dn, dok⟩ := da
    obtain ⟨yn, yok⟩ := dc
    simp only at hna hda hnone hsome hd99 hnc hdc
    obtain ⟨hda1, _⟩ := hda
    obtain ⟨hdc1, hdc2⟩ := hdc
    obtain ⟨hm1, hm2⟩ := hrm
    by_cases hgood : dok = true ∧ yok = true ∧ c.size = 4 ∧ m ≠ 0 ∧ 1 ≤ dn
    · obtain ⟨rfl, rfl, hc4, hm0, hd1⟩ := hgood
      have hmb : (m == 0) = false := by simpa using hm0
      have hyn : yn ≤ 9999 := by
        rw [hc4] at hdc2
        have : (10 : Int) ^ 4 = 10000 := by decide
        omega
      have hlo := fun W => long_anyD yn m W ⟨hdc1, hyn⟩ ⟨by omega, hm2⟩
      have hdy := fun W => days_anyD yn m dn W ⟨hdc1, hyn⟩ ⟨by omega, hm2⟩ ⟨hd1, hd99⟩
      by_cases hlg : dn ≤ longP yn m
      · have hr := hsome rfl rfl hc4 hm0 hd1 hlg
        rw [hr]
        generalize longP yn m = lg at hlo hlg
        generalize daysP yn m dn = dd at hdy
        clear hnone hsome hr hdc2
        go_enter Tryz.func166, Tryz.ntmps166
        go_wp2_with (first
          | (go_at_call 181; with_reducible refine (hna _).mono ?_; rintro e w2 ⟨rfl, rfl⟩)
          | (go_at_call 181; with_reducible refine (hnc _).mono ?_; rintro e w2 ⟨rfl, rfl⟩)
          | (go_at_call 182; with_reducible refine (hma _).mono ?_; rintro e w3 ⟨rfl, hb3⟩; have HB3 := Lib.hid hb3; clear hb3)
          | (go_at_call 183; with_reducible refine (hlo _).mono ?_; rintro e w4 ⟨rfl, rfl⟩)
          | (go_at_call 184; with_reducible refine (hdy _).mono ?_; rintro e w4 ⟨rfl, rfl⟩)
          | fail)
        go_ret2
        exact ⟨rfl, HB3.out⟩
      · have hr := hnone (fun h => hlg h.2.2.2.2.2)
        rw [hr]
        generalize longP yn m = lg at hlo hlg
        clear hnone hsome hr hdc2
        go_enter Tryz.func166, Tryz.ntmps166
        go_wp2_with (first
          | (go_at_call 181; with_reducible refine (hna _).mono ?_; rintro e w2 ⟨rfl, rfl⟩)
          | (go_at_call 181; with_reducible refine (hnc _).mono ?_; rintro e w2 ⟨rfl, rfl⟩)
          | (go_at_call 182; with_reducible refine (hma _).mono ?_; rintro e w3 ⟨rfl, hb3⟩; have HB3 := Lib.hid hb3; clear hb3)
          | (go_at_call 183; with_reducible refine (hlo _).mono ?_; rintro e w4 ⟨rfl, rfl⟩)
          | fail)
        go_ret2
        exact ⟨rfl, HB3.out⟩
    · have hr := hnone (fun h => hgood ⟨h.1, h.2.1, h.2.2.1, h.2.2.2.1, h.2.2.2.2.1⟩)
      rw [hr]
      clear hnone hsome hr hdc2
      have walk : (dok = false ∨ yok = false ∨ c.size ≠ 4 ∨ m = 0 ∨ dn < 1) := by
        by_cases h1 : dok = true
        · by_cases h2 : yok = true
          · by_cases h3 : c.size = 4
            · by_cases h4 : m = 0
              · exact .inr (.inr (.inr (.inl h4)))
              · exact .inr (.inr (.inr (.inr (by
                  by_cases h5 : 1 ≤ dn
                  · exact absurd ⟨h1, h2, h3, h4, h5⟩ hgood
                  · omega))))
            · exact .inr (.inr (.inl h3))
          · exact .inr (.inl (by simpa using h2))
        · exact .inl (by simpa using h1)
      clear hgood
      cases dok with
      | false =>
        clear walk
        go_enter Tryz.func166, Tryz.ntmps166
        go_wp2_with (first
          | (go_at_call 181; with_reducible refine (hna _).mono ?_; rintro e w2 ⟨rfl, rfl⟩)
          | (go_at_call 181; with_reducible refine (hnc _).mono ?_; rintro e w2 ⟨rfl, rfl⟩)
          | (go_at_call 182; with_reducible refine (hma _).mono ?_; rintro e w3 ⟨rfl, hb3⟩; have HB3 := Lib.hid hb3; clear hb3)
          | fail)
        go_ret2
        exact ⟨rfl, HB3.out⟩
      | true =>
        cases yok with
        | false =>
          clear walk
          go_enter Tryz.func166, Tryz.ntmps166
          go_wp2_with (first
            | (go_at_call 181; with_reducible refine (hna _).mono ?_; rintro e w2 ⟨rfl, rfl⟩)
            | (go_at_call 181; with_reducible refine (hnc _).mono ?_; rintro e w2 ⟨rfl, rfl⟩)
            | (go_at_call 182; with_reducible refine (hma _).mono ?_; rintro e w3 ⟨rfl, hb3⟩; have HB3 := Lib.hid hb3; clear hb3)
            | fail)
          go_ret2
          exact ⟨rfl, HB3.out⟩
        | true =>
          by_cases hc4 : c.size = 4
          · by_cases hm0 : m = 0
            · subst hm0
              clear walk
              go_enter Tryz.func166, Tryz.ntmps166
              go_wp2_with (first
                | (go_at_call 181; with_reducible refine (hna _).mono ?_; rintro e w2 ⟨rfl, rfl⟩)
                | (go_at_call 181; with_reducible refine (hnc _).mono ?_; rintro e w2 ⟨rfl, rfl⟩)
                | (go_at_call 182; with_reducible refine (hma _).mono ?_; rintro e w3 ⟨rfl, hb3⟩; have HB3 := Lib.hid hb3; clear hb3)
                | fail)
              go_ret2
              exact ⟨rfl, HB3.out⟩
            · have hd1 : dn < 1 := by
                rcases walk with h | h | h | h | h
                · cases h
                · cases h
                · exact absurd hc4 h
                · exact absurd h hm0
                · exact h
              have hmb : (m == 0) = false := by simpa using hm0
              clear walk
              go_enter Tryz.func166, Tryz.ntmps166
              go_wp2_with (first
                | (go_at_call 181; with_reducible refine (hna _).mono ?_; rintro e w2 ⟨rfl, rfl⟩)
                | (go_at_call 181; with_reducible refine (hnc _).mono ?_; rintro e w2 ⟨rfl, rfl⟩)
                | (go_at_call 182; with_reducible refine (hma _).mono ?_; rintro e w3 ⟨rfl, hb3⟩; have HB3 := Lib.hid hb3; clear hb3)
                | fail)
              go_ret2
              exact ⟨rfl, HB3.out⟩
          · clear walk
            go_enter Tryz.func166, Tryz.ntmps166
            go_wp2_with (first
              | (go_at_call 181; with_reducible refine (hna _).mono ?_; rintro e w2 ⟨rfl, rfl⟩)
              | (go_at_call 181; with_reducible refine (hnc _).mono ?_; rintro e w2 ⟨rfl, rfl⟩)
              | (go_at_call 182; with_reducible refine (hma _).mono ?_; rintro e w3 ⟨rfl, hb3⟩; have HB3 := Lib.hid hb3; clear hb3)
              | fail)
            go_ret2
            exact ⟨rfl, HB3.out⟩
  · have hnc := fun W => number_longD c W hc
    have hr := hnone (fun h => by omega)
    rw [hr]
    generalize digL a.data.toList = da at hna
    generalize monthL b.data.toList = m at hma
    obtain ⟨dn, dok⟩ := da
    have hc4 : ¬ c.size = 4 := by omega
    clear hnone hsome hr hda hd99 hrm hc15
    cases dok with
    | false =>
      go_enter Tryz.func166, Tryz.ntmps166
      go_wp2_with (first
        | (go_at_call 181; with_reducible refine (hna _).mono ?_; rintro e w2 ⟨rfl, rfl⟩)
        | (go_at_call 181; refine (hnc _).mono ?_; rintro e w2 ⟨⟨yn, yok, rfl⟩, rfl⟩)
        | (go_at_call 182; with_reducible refine (hma _).mono ?_; rintro e w3 ⟨rfl, hb3⟩; have HB3 := Lib.hid hb3; clear hb3)
        | fail)
      go_ret2
      exact ⟨rfl, HB3.out⟩
    | true =>
      go_enter Tryz.func166, Tryz.ntmps166
      go_wp2_with (first
        | (go_at_call 181; with_reducible refine (hna _).mono ?_; rintro e w2 ⟨rfl, rfl⟩)
        | (go_at_call 181; refine (hnc _).mono ?_; rintro e w2 ⟨⟨yn, yok, rfl⟩, rfl⟩; cases yok)
        | (go_at_call 182; with_reducible refine (hma _).mono ?_; rintro e w3 ⟨rfl, hb3⟩; have HB3 := Lib.hid hb3; clear hb3)
        | fail)
      all_goals
        go_ret2
        exact ⟨rfl, HB3.out⟩

end Go.Proofs.YtnfabgbidkddhaaGreatDoor

namespace Go.Proofs.YtnfabgbidkddhaaGreatDoor
open Go.Shelf Go.RowKit Go.Lib

theorem dateR_rng (a b c : List UInt8) (ha : a.length ≤ 2) (h : (dateR a b c).2 = true) : -800000 ≤ (dateR a b c).1 ∧ (dateR a b c).1 ≤ 4000000 := by
  unfold dateR dateL at *
  by_cases hg : (digL a).2 = true ∧ (digL c).2 = true ∧ c.length = 4 ∧ monthL b ≠ 0 ∧ 1 ≤ (digL a).1 ∧ (digL a).1 ≤ longP (digL c).1 (monthL b)
  · rw [if_pos hg]
    obtain ⟨h1, h2, h3, h4, h5, h6⟩ := hg
    have r1 := digL_rng a
    have r2 := digL_rng c
    have r3 := monthL_rng b
    have e2 : ∀ j : Nat, j ≤ 2 → (10 : Int) ^ j ≤ 100 := by decide
    have e3 := e2 a.length ha
    rw [h3] at r2
    have e4 : (10 : Int) ^ 4 = 10000 := by decide
    exact daysP_rng _ _ _ ⟨r2.1, by omega⟩ ⟨by omega, r3.2⟩ ⟨h5, by omega⟩
  · rw [if_neg hg] at h
    cases h
theorem day3_date (a b c : List UInt8) (ha : a.length ≤ 2) : day3 [a, b, c] = if (dateR a b c).2 = true ∧ 0 ≤ (dateR a b c).1 then ((dateR a b c).1 * 86400, 0) else (0, 3) := by
  show (if 2 < a.length then (0, 3) else dayOf (dateL a b c)) = _
  rw [if_neg (by omega)]
  unfold dateR
  cases dateL a b c with
  | none => simp [dayOf]
  | some d =>
    show (if d < 0 then (0, 3) else (d * 86400, 0)) = _
    by_cases hd : d < 0
    · rw [if_pos hd, if_neg (by simp; omega)]
    · rw [if_neg hd, if_pos (by simp; omega)]

set_option maxRecDepth 100000 in
set_option maxHeartbeats 4000000 in
theorem readDay_anyD (s : ByteArray) (w : World) (hs : s.size ≤ 100000) (hm : Mx w) :
    Calls Tryz.prog 138 #[.string s] w fun e w' => e = .returned (.tuple #[.int .i64 (dayL s.data.toList).1, .int .i64 (dayL s.data.toList).2]) ∧ Below w.heap.size w w' := by
  obtain ⟨m0, hm0⟩ := hm
  have hsp := Tryz.strings_Split s ⟨#[45]⟩ m0 w (by omega) hm0 (by decide)
  have hpc := splitB_pieces 45 s
  have hln := splitB_all ⟨#[45]⟩ (by decide) 0 _ s rfl
  have hsizes : ∀ p ∈ splitB ⟨#[45]⟩ 0 (countB s ⟨#[45]⟩) s, p.size ≤ 140737488351232 := by
    intro p hp
    have h1 : p.data.toList ∈ piecesC 45 s.data.toList := by
      rw [← hpc]
      exact List.mem_map_of_mem hp
    have h2 := piecesC_size 45 _ _ h1
    have := lenB p
    have := lenB s
    omega
  have hN : countB s ⟨#[45]⟩ + 1 ≤ 140737488351233 := by
    have h1 := piecesC_count 45 s.data.toList
    rw [← hpc, List.length_map, hln] at h1
    have := lenB s
    omega
  have hres : dayL s.data.toList = day3 ((splitB ⟨#[45]⟩ 0 (countB s ⟨#[45]⟩) s).map fun p => p.data.toList) := by
    unfold dayL
    rw [← hpc]
  rw [hres]
  clear hpc hres hm0
  generalize splitB ⟨#[45]⟩ 0 (countB s ⟨#[45]⟩) s = P at hsp hln hsizes ⊢
  generalize hNe : countB s ⟨#[45]⟩ + 1 = N at hsp hln hN
  clear hNe
  obtain ⟨r1, r2, hr⟩ : ∃ r1 r2, day3 (P.map fun p => p.data.toList) = (r1, r2) := ⟨_, _, rfl⟩
  rw [hr]
  by_cases h3 : N = 3
  · subst h3
    obtain ⟨a, b, c, rfl⟩ : ∃ a b c, P = [a, b, c] := by
      match P, hln with
      | [a, b, c], _ => exact ⟨a, b, c, rfl⟩
    have hsa := hsizes a (by simp)
    have hsb := hsizes b (by simp)
    have hsc := hsizes c (by simp)
    have hB := Blk.new w 9 #[.string a, .string b, .string c]
    have q0 : (w.alloc (.cells #[.string a, .string b, .string c] 9)).cell? ⟨w.heap.size, 0, none⟩ = some (.string a) := hB.cell 0
    have q1 : (w.alloc (.cells #[.string a, .string b, .string c] 9)).cell? ⟨w.heap.size, 1, none⟩ = some (.string b) := hB.cell 1
    have q2 : (w.alloc (.cells #[.string a, .string b, .string c] 9)).cell? ⟨w.heap.size, 2, none⟩ = some (.string c) := hB.cell 2
    have HB0 := Lib.hid ((Below.refl w.heap.size w).alloc (Nat.le_refl _) (.cells #[.string a, .string b, .string c] 9))
    simp only [List.map_cons, List.map_nil, List.toArray] at hsp
    have hW : ∃ W1 X, w.alloc (.cells #[.string a, .string b, .string c] 9) = W1 ∧ w.heap.size = X := ⟨_, _, rfl, rfl⟩
    obtain ⟨W1, X, hW1, hX⟩ := hW
    rw [hW1, hX] at q0 q1 q2
    rw [hW1] at HB0
    by_cases ha : 2 < a.size
    · have hd : day3 ([a, b, c].map fun p => p.data.toList) = (0, 3) := by
        show (if 2 < a.data.toList.length then (0, 3) else _) = ((0 : Int), (3 : Int))
        rw [if_pos (by rw [lenB]; exact ha)]
      rw [hd] at hr
      injection hr with hr1 hr2
      subst hr1 hr2
      clear hd hln hsizes hB hN
      go_enter Tryz.func138, Tryz.ntmps138
      go_wp2_with (first
        | (go_at_call 97; refine hsp.mono ?_; rintro e w1 ⟨rfl, rfl⟩; clear hsp)
        | fail)
      go_ret2
      exact ⟨rfl, HB0.out⟩
    · have hdd := day3_date a.data.toList b.data.toList c.data.toList (by rw [lenB]; omega)
      have hrg := dateR_rng a.data.toList b.data.toList c.data.toList (by rw [lenB]; omega)
      have hda := fun W => date_anyD a b c W (by omega) hsb hsc
      have hr : day3 [a.data.toList, b.data.toList, c.data.toList] = (r1, r2) := hr
      rw [hdd] at hr
      generalize dateR a.data.toList b.data.toList c.data.toList = rr at hr hrg hda
      obtain ⟨d, ok⟩ := rr
      simp only at hr hrg hda
      have HR := Lib.hid hr
      have hxl : X < W1.heap.size := by rw [← hW1, ← hX]; simp
      have HQ := Lib.hid (fun W (hb : Below W1.heap.size W1 W) => (⟨(hb.cell (p := ⟨X, 0, none⟩) hxl).trans q0, (hb.cell (p := ⟨X, 1, none⟩) hxl).trans q1, (hb.cell (p := ⟨X, 2, none⟩) hxl).trans q2⟩ : W.cell? ⟨X, 0, none⟩ = some (.string a) ∧ W.cell? ⟨X, 1, none⟩ = some (.string b) ∧ W.cell? ⟨X, 2, none⟩ = some (.string c)))
      clear hr hdd hln hsizes hB hN hxl
      go_enter Tryz.func138, Tryz.ntmps138
      go_upto_region 4 with (first
        | (go_at_call 97; refine hsp.mono ?_; rintro e w1 ⟨rfl, rfl⟩; clear hsp)
        | fail)
      go_region_held3 (fun W => W.cell? ⟨X, 0, none⟩ = some (.string a) ∧ W.cell? ⟨X, 1, none⟩ = some (.string b) ∧ W.cell? ⟨X, 2, none⟩ = some (.string c)) (first | exact HQ2.out | go_keep) (first
        | (go_at_call 166; refine (hda _).mono ?_; rintro e w2 ⟨rfl, hb2⟩; have HB2 := Lib.hid (show Below W1.heap.size W1 w2 from belowDD hb2); have HQ2 := Lib.hid (HQ.out w2 (belowDD hb2)); clear hb2)
        | fail)
      all_goals
        have HB4 := Lib.hid (belowD HB0.out HB2.out)
        have hr := HR.out
        cases ok with
        | false =>
          rw [if_neg (by simp)] at hr
          injection hr with hr1 hr2
          subst hr1 hr2
          go_wp2
          go_ret2
          exact ⟨rfl, by first | exact HB4.out | exact hX ▸ HB4.out⟩
        | true =>
          obtain ⟨g1, g2⟩ := hrg rfl
          by_cases h0 : 0 ≤ d
          · rw [if_pos ⟨rfl, h0⟩] at hr
            injection hr with hr1 hr2
            subst hr1 hr2
            go_wp2
            go_ret2
            exact ⟨rfl, by first | exact HB4.out | exact hX ▸ HB4.out⟩
          · rw [if_neg (by simp; omega)] at hr
            injection hr with hr1 hr2
            subst hr1 hr2
            go_wp2
            go_ret2
            exact ⟨rfl, by first | exact HB4.out | exact hX ▸ HB4.out⟩
  · have hd : day3 (P.map fun p => p.data.toList) = (0, 3) := by
      match P, hln with
      | [], _ => rfl
      | [_], _ => rfl
      | [_, _], _ => rfl
      | [_, _, _], h => exact absurd h.symm h3
      | _ :: _ :: _ :: _ :: _, _ => rfl
    rw [hd] at hr
    injection hr with hr1 hr2
    subst hr1 hr2
    have hne : ((N : Int) != 3) = true := by simp; omega
    have HB0 := Lib.hid ((Below.refl w.heap.size w).alloc (Nat.le_refl _) (.cells (P.map Value.string).toArray 9))
    clear hd hln hsizes h3
    go_enter Tryz.func138, Tryz.ntmps138
    go_wp2_with (first
      | (go_at_call 97; refine hsp.mono ?_; rintro e w1 ⟨rfl, rfl⟩; clear hsp)
      | fail)
    go_ret2
    exact ⟨rfl, HB0.out⟩

end Go.Proofs.YtnfabgbidkddhaaGreatDoor

namespace Go.Proofs.YtnfabgbidkddhaaGreatDoor
open Go.RowKit
attribute [local go_sem ↓] Go.wp_at_zero Go.wp_at_succ

theorem dayL_rng (l : List UInt8) : -1000000000000 ≤ (dayL l).1 ∧ (dayL l).1 ≤ 1000000000000 := by
  unfold dayL day3
  split
  · rename_i a b c _
    by_cases ha : 2 < a.length
    · rw [if_pos ha]
      exact ⟨by decide, by decide⟩
    · rw [if_neg ha]
      have h1 := day3_date a b c (by omega)
      have h2 := dateR_rng a b c (by omega)
      have h3 : day3 [a, b, c] = dayOf (dateL a b c) := by
        show (if 2 < a.length then (0, 3) else dayOf (dateL a b c)) = _
        rw [if_neg ha]
      rw [h3] at h1
      rw [h1]
      by_cases hg : (dateR a b c).2 = true ∧ 0 ≤ (dateR a b c).1
      · rw [if_pos hg]
        have := h2 hg.1
        exact ⟨by show _ ≤ _ * (86400 : Int); omega, by show _ * (86400 : Int) ≤ _; omega⟩
      · rw [if_neg hg]
        exact ⟨by decide, by decide⟩
  · exact ⟨by decide, by decide⟩
theorem numberL_rng (l : List UInt8) : 0 ≤ (numberL l).1 ∧ (numberL l).1 ≤ 4294967295 := by
  refine ⟨numberL_ge l, ?_⟩
  unfold numberL
  split
  · show (0 : Int) ≤ _
    omega
  · split
    · split
      · show (0 : Int) ≤ _
        omega
      · show _ ≤ _
        omega
    · show (0 : Int) ≤ _
      omega

section
variable {w0 w w' : World} {g ob mb : Nat} {uv : Value} {E : CEnv} {ws : List WT} {out : Out} {mod : Bool} {h : Hn}

/-- A number, out of the next word. -/
def NumOut (w0 w : World) (g ob mb : Nat) (uv : Value) (E : CEnv) (ws : List WT) (out : Out) (mod : Bool) (h : Hn) (f : List WT → Option (Int × List WT)) (e : Ending) (w' : World) : Prop :=
  ∃ n ok ws', e = .returned (.tuple #[.int .i64 n, .bool ok]) ∧ KSt w0 w w' g ob mb uv E h ws' out mod h ∧ f ws = (if ok = true then some (n, ws') else none) ∧ -1000000000000 ≤ n ∧ n ≤ 1000000000000 ∧ szL ws' + (if ok = true then 1 else 0) ≤ szL ws

set_option maxRecDepth 100000 in
set_option maxHeartbeats 1000000 in
theorem num_anyC (s : RAt w0 w g ob mb uv E ws out mod h) :
    Calls Tryz.prog 109 #[.pointer (some ⟨g, 0, none⟩)] w (NumOut w0 w g ob mb uv E ws out mod h numP) := by
  have hw := word_anyC s
  clear s
  go_enter Tryz.func109, Tryz.ntmps109
  go_wp2_with (first
    | (go_at_call 105; refine hw.mono ?_; rintro e w2 ⟨t, ok, ws', rfl, hks, hwp, hsz, hle⟩; have HK := Lib.hid hks; have HW := Lib.hid hwp; have HL := Lib.hid hle; clear hks hwp hle hw; cases ok)
    | (go_at_call 139; refine (number_any _ _ (by omega)).mono ?_; rintro e w3 ⟨rfl, rfl⟩; have hr := numberL_rng t.data.toList; have HR := Lib.hid hr; clear hr; obtain ⟨nn, hnn⟩ : ∃ nn, nn = numberL t.data.toList := ⟨_, rfl⟩; rw [← hnn] at HR ⊢; have HNN := Lib.hid hnn; clear hnn; obtain ⟨n, is⟩ := nn; simp only at HR ⊢)
    | fail)
  · go_ret2
    refine ⟨_, false, _, rfl, HK.out, ?_, ?_, ?_, ?_⟩
    · have := HW.out
      simp only [Bool.false_eq_true, if_false] at this
      simp [numP, this]
    · have := HR.out
      omega
    · have := HR.out
      omega
    · have := HL.out
      simpa using this
  · go_ret2
    have h1 := HW.out
    simp only [if_true] at h1
    have h2 := HNN.out
    refine ⟨_, is, _, rfl, HK.out, ?_, ?_, ?_, ?_⟩
    · simp [numP, h1, ← h2]
    · have := HR.out
      omega
    · have := HR.out
      omega
    · have := HL.out
      simp only [if_true] at this
      cases is
      · simp only [Bool.false_eq_true, if_false]
        omega
      · simpa using this

set_option maxRecDepth 100000 in
set_option maxHeartbeats 1000000 in
theorem day_anyC (s : RAt w0 w g ob mb uv E ws out mod h) (he : EAt w0 uv E) :
    Calls Tryz.prog 108 #[.pointer (some ⟨g, 0, none⟩)] w (NumOut w0 w g ob mb uv E ws out mod h dayP) := by
  have hw := word_anyC s
  have HM := Lib.hid he.mx
  clear s he
  go_enter Tryz.func108, Tryz.ntmps108
  go_wp2_with (first
    | (go_at_call 105; refine hw.mono ?_; rintro e w2 ⟨t, ok, ws', rfl, hks, hwp, hsz, hle⟩; have HK := Lib.hid hks; have HW := Lib.hid hwp; have HL := Lib.hid hle; clear hks hwp hle hw; cases ok)
    | (go_at_call 138; refine (readDay_anyD _ _ (by omega) (HM.out.below HK.out.at_.bel)).mono ?_; rintro e w3 ⟨rfl, hb3⟩; have HK3 := Lib.hid (HK.out.below hb3); have hr := dayL_rng t.data.toList; have HR := Lib.hid hr; clear hr hb3; obtain ⟨nn, hnn⟩ : ∃ nn, nn = dayL t.data.toList := ⟨_, rfl⟩; rw [← hnn] at HR ⊢; have HNN := Lib.hid hnn; clear hnn; obtain ⟨n, er⟩ := nn; simp only at HR ⊢)
    | fail)
  · go_ret2
    refine ⟨_, false, _, rfl, HK3.out, ?_, ?_, ?_, ?_⟩
    · have := HW.out
      simp only [Bool.false_eq_true, if_false] at this
      simp [dayP, this]
    · exact HR.out.1
    · exact HR.out.2
    · have := HL.out
      simpa using this
  · go_ret2
    have h1 := HW.out
    simp only [if_true] at h1
    have h2 := HNN.out
    have h3 := HL.out
    simp only [if_true] at h3
    refine ⟨_, (er == 0), _, rfl, HK3.out, ?_, HR.out.1, HR.out.2, ?_⟩
    · simp [dayP, h1, ← h2]
    · split <;> omega
end

end Go.Proofs.YtnfabgbidkddhaaGreatDoor
