/-
  The walks of text.Number and of the reference's Number: the number that digits are; the world is as it was.
-/
import Derived.Test.YtnfabgbidkddhaaGreatDoorGCA
import Derived.Test.YtnfabgbidkddhaaGreatDoorProg
namespace Go.Proofs.YtnfabgbidkddhaaGreatDoor
open Go.RowKit

def numGo : List UInt8 → Int → Option Int
  | [], n => some n
  | c :: r, n => if (c.toNat : Int) < 48 ∨ 57 < (c.toNat : Int) then none else numGo r (n * 10 + ((c.toNat : Int) - 48))

def numberL (l : List UInt8) : Int × Bool :=
  if l = [] ∨ 10 < l.length ∨ (l.head? = some 48 ∧ 1 < l.length) then (0, false)
  else match numGo l 0 with
    | some n => if 4294967295 < n then (0, false) else (n, true)
    | none => (0, false)

theorem numGo_step (s : ByteArray) (k : Nat) (h : k < s.size) (n : Int) (h1 : ¬ (s[k].toNat : Int) < 48) (h2 : ¬ 57 < (s[k].toNat : Int)) :
    numGo (s.data.toList.drop k) n = numGo (s.data.toList.drop (k + 1)) (n * 10 + ((s[k].toNat : Int) - 48)) := by
  rw [List.drop_eq_getElem_cons (by simpa using h)]
  show (if _ then _ else _) = _
  exact if_neg fun h => h.elim h1 h2
theorem numGo_bad (s : ByteArray) (k : Nat) (h : k < s.size) (n : Int) (hb : (s[k].toNat : Int) < 48 ∨ 57 < (s[k].toNat : Int)) :
    numGo (s.data.toList.drop k) n = none := by
  rw [List.drop_eq_getElem_cons (by simpa using h)]
  exact if_pos hb
theorem numGo_end (s : ByteArray) (n : Int) : numGo (s.data.toList.drop s.size) n = some n := by
  rw [List.drop_of_length_le (by simp)]
  rfl

theorem pow10_step {k : Nat} {n d : Int} (_ : 0 ≤ n) (h : n < 10 ^ k) (hd : 0 ≤ d) (hd9 : d ≤ 9) : n * 10 + d < 10 ^ (k + 1) := by
  rw [Int.pow_succ]
  omega
theorem pow10_le {k : Nat} (h : k ≤ 10) {n : Int} (hn : n < 10 ^ k) : n < 10000000000 := by
  have h2 : ∀ j : Nat, j ≤ 10 → (10 : Int) ^ j ≤ 10000000000 := by decide
  have := h2 k h
  omega

set_option maxRecDepth 100000 in
set_option maxHeartbeats 400000 in
theorem number_any (s : ByteArray) (w : World) (hs : s.size ≤ 140737488351232) :
    Calls Tryz.prog 139 #[.string s] w fun e w' => e = .returned (.tuple #[.int .i64 (numberL s.data.toList).1, .bool (numberL s.data.toList).2]) ∧ w = w' := by
  obtain ⟨r, b, hb⟩ : ∃ r b, numberL s.data.toList = (r, b) := ⟨_, _, rfl⟩
  rw [hb]
  have HB0 := Lib.hid hb
  clear hb
  by_cases he : s = ByteArray.empty
  · subst he
    have hb := HB0.out
    injection hb with h1 h2
    subst h1 h2
    clear HB0
    go_enter Tryz.func139, Tryz.ntmps139
    go_wp2_with fail
    go_ret2
    exact ⟨rfl, rfl⟩
  · have hne : s.toList.isEmpty = false := by
      rw [ByteArray.toList_eq, List.isEmpty_eq_false_iff]
      exact fun h => he (of_dataL s [] h)
    have h0 : 0 < s.size := by
      rcases Nat.eq_zero_or_pos s.size with h | h
      · exact absurd (of_dataL s [] (List.eq_nil_of_length_eq_zero (by simpa using h))) he
      · exact h
    have hlz : s.data.toList ≠ [] := fun h => he (of_dataL s [] h)
    clear he
    by_cases h10 : 10 < s.size
    · have hb : (0, false) = (r, b) := by rw [← HB0.out]; unfold numberL; rw [if_pos (.inr (.inl (by simpa using h10)))]
      injection hb with h1 h2
      subst h1 h2
      clear HB0 hlz
      go_enter Tryz.func139, Tryz.ntmps139
      go_wp2_with fail
      go_ret2
      exact ⟨rfl, rfl⟩
    · by_cases h48 : (s[0].toNat : Int) = 48 ∧ 1 < s.size
      · obtain ⟨h48, h1s⟩ := h48
        have hb : (0, false) = (r, b) := by
          have hd : s.data.toList.head? = some 48 := by
            rw [List.head?_eq_getElem?, List.getElem?_eq_getElem (by simpa using h0)]
            have : s[0].toNat = (48 : UInt8).toNat := by show s[0].toNat = 48; omega
            exact congrArg some (UInt8.toNat_inj.mp this)
          rw [← HB0.out]; unfold numberL
          rw [if_pos (.inr (.inr ⟨hd, by simpa using h1s⟩))]
        injection hb with h1 h2
        subst h1 h2
        clear HB0 hlz
        go_enter Tryz.func139, Tryz.ntmps139
        go_wp2_with fail
        go_ret2
        exact ⟨rfl, rfl⟩
      · have hl : (match numGo s.data.toList 0 with | some n => if 4294967295 < n then (0, false) else (n, true) | none => (0, false)) = (r, b) := by
          rw [← HB0.out]; unfold numberL
          rw [if_neg]
          rintro (h | h | ⟨h, h2⟩)
          · exact hlz h
          · exact h10 (by simpa using h)
          · rw [List.head?_eq_getElem?, List.getElem?_eq_getElem (by simpa using h0)] at h
            injection h with h
            exact h48 ⟨by show (s.data.toList[0].toNat : Int) = 48; rw [h]; rfl, by simpa using h2⟩
        have HL := Lib.hid hl
        clear hl HB0 hlz
        have h10' : s.size ≤ 10 := by omega
        have hfin : ∀ v : Int, numGo s.data.toList 0 = some v → (if 4294967295 < v then ((0 : Int), false) else (v, true)) = (r, b) := fun v hv => by
          have h := HL.out
          rw [hv] at h
          exact h
        have hbad : numGo s.data.toList 0 = none → ((0 : Int), false) = (r, b) := fun hv => by
          have h := HL.out
          rw [hv] at h
          exact h
        have HF := Lib.hid hfin
        have HN := Lib.hid hbad
        have HS := Lib.hid h48
        clear hfin hbad HL h48 h10
        go_enter Tryz.func139, Tryz.ntmps139
        by_cases h1s : 1 < s.size
        · have h4 : ¬ (s[0].toNat : Int) = 48 := fun h => HS.out ⟨h, h1s⟩
          clear HS
          go_wp2_with fail
          clear h4 h1s
          go_loop [4, 25] (fun n i => ∃ (k : Nat) (v : Int), k ≤ s.size ∧ i = .int .i64 k ∧ n = .int .i64 v ∧ Hid (numGo (s.data.toList.drop k) v = numGo s.data.toList 0) ∧ Hid (0 ≤ v ∧ v < 10 ^ k)) (fun _ i => s.size - (intOf i).toNat)
          case atStart => exact ⟨0, 0, Nat.zero_le _, rfl, rfl, Lib.hid rfl, Lib.hid ⟨by decide, by decide⟩⟩
          case round =>
            obtain ⟨k, v, hk, rfl, rfl, HG, HV⟩ := hrel
            by_cases hlt : k < s.size
            · by_cases h1 : (s[k].toNat : Int) < 48
              · have hn := HN.out (HG.out.symm.trans (numGo_bad s k hlt v (.inl h1)))
                injection hn with hn1 hn2
                subst hn1 hn2
                clear HF HN HG HV
                go_wp2_with fail
                go_ret2
                exact ⟨rfl, rfl⟩
              · by_cases h2 : 57 < (s[k].toNat : Int)
                · have hn := HN.out (HG.out.symm.trans (numGo_bad s k hlt v (.inr h2)))
                  injection hn with hn1 hn2
                  subst hn1 hn2
                  clear HF HN HG HV
                  go_wp2_with fail
                  go_ret2
                  exact ⟨rfl, rfl⟩
                · have HG2 := Lib.hid ((numGo_step s k hlt v h1 h2).symm.trans HG.out)
                  have hp := pow10_step HV.out.1 HV.out.2 (show 0 ≤ (s[k].toNat : Int) - 48 by omega) (show (s[k].toNat : Int) - 48 ≤ 9 by omega)
                  have v0 : 0 ≤ v := HV.out.1
                  have v9 : v < 10000000000 := pow10_le (by omega) HV.out.2
                  have HP := Lib.hid hp
                  clear hp HG HV HF HN
                  go_wp2_with fail
                  go_round
                  case rel => exact ⟨k + 1, _, by omega, by go_num, rfl, HG2, Lib.hid ⟨by omega, HP.out⟩⟩
                  case measure => simp [intOf]; omega
            · have hk2 : k = s.size := by omega
              subst hk2
              have hv := HG.out
              rw [numGo_end] at hv
              have hn := HF.out v hv.symm
              have v0 : 0 ≤ v := HV.out.1
              have v9 : v < 10000000000 := pow10_le (by omega) HV.out.2
              clear HF HN HG HV hv
              by_cases hb : 4294967295 < v
              · rw [if_pos hb] at hn
                injection hn with hn1 hn2
                subst hn1 hn2
                go_wp2_with fail
                go_ret2
                exact ⟨rfl, rfl⟩
              · rw [if_neg hb] at hn
                injection hn with hn1 hn2
                subst hn1 hn2
                go_wp2_with fail
                go_ret2
                exact ⟨rfl, rfl⟩
        · clear HS
          by_cases h4 : (s[0].toNat : Int) = 48
          · go_wp2_with fail
            clear h1s h4
            go_loop [4, 25] (fun n i => ∃ (k : Nat) (v : Int), k ≤ s.size ∧ i = .int .i64 k ∧ n = .int .i64 v ∧ Hid (numGo (s.data.toList.drop k) v = numGo s.data.toList 0) ∧ Hid (0 ≤ v ∧ v < 10 ^ k)) (fun _ i => s.size - (intOf i).toNat)
            case atStart => exact ⟨0, 0, Nat.zero_le _, rfl, rfl, Lib.hid rfl, Lib.hid ⟨by decide, by decide⟩⟩
            case round =>
              obtain ⟨k, v, hk, rfl, rfl, HG, HV⟩ := hrel
              by_cases hlt : k < s.size
              · by_cases h1 : (s[k].toNat : Int) < 48
                · have hn := HN.out (HG.out.symm.trans (numGo_bad s k hlt v (.inl h1)))
                  injection hn with hn1 hn2
                  subst hn1 hn2
                  clear HF HN HG HV
                  go_wp2_with fail
                  go_ret2
                  exact ⟨rfl, rfl⟩
                · by_cases h2 : 57 < (s[k].toNat : Int)
                  · have hn := HN.out (HG.out.symm.trans (numGo_bad s k hlt v (.inr h2)))
                    injection hn with hn1 hn2
                    subst hn1 hn2
                    clear HF HN HG HV
                    go_wp2_with fail
                    go_ret2
                    exact ⟨rfl, rfl⟩
                  · have HG2 := Lib.hid ((numGo_step s k hlt v h1 h2).symm.trans HG.out)
                    have hp := pow10_step HV.out.1 HV.out.2 (show 0 ≤ (s[k].toNat : Int) - 48 by omega) (show (s[k].toNat : Int) - 48 ≤ 9 by omega)
                    have v0 : 0 ≤ v := HV.out.1
                    have v9 : v < 10000000000 := pow10_le (by omega) HV.out.2
                    have HP := Lib.hid hp
                    clear hp HG HV HF HN
                    go_wp2_with fail
                    go_round
                    case rel => exact ⟨k + 1, _, by omega, by go_num, rfl, HG2, Lib.hid ⟨by omega, HP.out⟩⟩
                    case measure => simp [intOf]; omega
              · have hk2 : k = s.size := by omega
                subst hk2
                have hv := HG.out
                rw [numGo_end] at hv
                have hn := HF.out v hv.symm
                have v0 : 0 ≤ v := HV.out.1
                have v9 : v < 10000000000 := pow10_le (by omega) HV.out.2
                clear HF HN HG HV hv
                by_cases hb : 4294967295 < v
                · rw [if_pos hb] at hn
                  injection hn with hn1 hn2
                  subst hn1 hn2
                  go_wp2_with fail
                  go_ret2
                  exact ⟨rfl, rfl⟩
                · rw [if_neg hb] at hn
                  injection hn with hn1 hn2
                  subst hn1 hn2
                  go_wp2_with fail
                  go_ret2
                  exact ⟨rfl, rfl⟩
          · go_wp2_with fail
            clear h1s h4
            go_loop [4, 25] (fun n i => ∃ (k : Nat) (v : Int), k ≤ s.size ∧ i = .int .i64 k ∧ n = .int .i64 v ∧ Hid (numGo (s.data.toList.drop k) v = numGo s.data.toList 0) ∧ Hid (0 ≤ v ∧ v < 10 ^ k)) (fun _ i => s.size - (intOf i).toNat)
            case atStart => exact ⟨0, 0, Nat.zero_le _, rfl, rfl, Lib.hid rfl, Lib.hid ⟨by decide, by decide⟩⟩
            case round =>
              obtain ⟨k, v, hk, rfl, rfl, HG, HV⟩ := hrel
              by_cases hlt : k < s.size
              · by_cases h1 : (s[k].toNat : Int) < 48
                · have hn := HN.out (HG.out.symm.trans (numGo_bad s k hlt v (.inl h1)))
                  injection hn with hn1 hn2
                  subst hn1 hn2
                  clear HF HN HG HV
                  go_wp2_with fail
                  go_ret2
                  exact ⟨rfl, rfl⟩
                · by_cases h2 : 57 < (s[k].toNat : Int)
                  · have hn := HN.out (HG.out.symm.trans (numGo_bad s k hlt v (.inr h2)))
                    injection hn with hn1 hn2
                    subst hn1 hn2
                    clear HF HN HG HV
                    go_wp2_with fail
                    go_ret2
                    exact ⟨rfl, rfl⟩
                  · have HG2 := Lib.hid ((numGo_step s k hlt v h1 h2).symm.trans HG.out)
                    have hp := pow10_step HV.out.1 HV.out.2 (show 0 ≤ (s[k].toNat : Int) - 48 by omega) (show (s[k].toNat : Int) - 48 ≤ 9 by omega)
                    have v0 : 0 ≤ v := HV.out.1
                    have v9 : v < 10000000000 := pow10_le (by omega) HV.out.2
                    have HP := Lib.hid hp
                    clear hp HG HV HF HN
                    go_wp2_with fail
                    go_round
                    case rel => exact ⟨k + 1, _, by omega, by go_num, rfl, HG2, Lib.hid ⟨by omega, HP.out⟩⟩
                    case measure => simp [intOf]; omega
              · have hk2 : k = s.size := by omega
                subst hk2
                have hv := HG.out
                rw [numGo_end] at hv
                have hn := HF.out v hv.symm
                have v0 : 0 ≤ v := HV.out.1
                have v9 : v < 10000000000 := pow10_le (by omega) HV.out.2
                clear HF HN HG HV hv
                by_cases hb : 4294967295 < v
                · rw [if_pos hb] at hn
                  injection hn with hn1 hn2
                  subst hn1 hn2
                  go_wp2_with fail
                  go_ret2
                  exact ⟨rfl, rfl⟩
                · rw [if_neg hb] at hn
                  injection hn with hn1 hn2
                  subst hn1 hn2
                  go_wp2_with fail
                  go_ret2
                  exact ⟨rfl, rfl⟩

set_option maxRecDepth 100000 in
set_option maxHeartbeats 400000 in
theorem refNumber_any (s : ByteArray) (w : World) (hs : s.size ≤ 140737488351232) :
    Calls Tryz.prog 120 #[.string s] w fun e w' => e = .returned (.tuple #[.int .i64 (numberL s.data.toList).1, .bool (numberL s.data.toList).2]) ∧ w = w' := by
  obtain ⟨r, b, hb⟩ : ∃ r b, numberL s.data.toList = (r, b) := ⟨_, _, rfl⟩
  rw [hb]
  have HB0 := Lib.hid hb
  clear hb
  by_cases he : s = ByteArray.empty
  · subst he
    have hb := HB0.out
    injection hb with h1 h2
    subst h1 h2
    clear HB0
    go_enter Tryz.func120, Tryz.ntmps120
    go_wp2_with fail
    go_ret2
    exact ⟨rfl, rfl⟩
  · have hne : s.toList.isEmpty = false := by
      rw [ByteArray.toList_eq, List.isEmpty_eq_false_iff]
      exact fun h => he (of_dataL s [] h)
    have h0 : 0 < s.size := by
      rcases Nat.eq_zero_or_pos s.size with h | h
      · exact absurd (of_dataL s [] (List.eq_nil_of_length_eq_zero (by simpa using h))) he
      · exact h
    have hlz : s.data.toList ≠ [] := fun h => he (of_dataL s [] h)
    clear he
    by_cases h10 : 10 < s.size
    · have hb : (0, false) = (r, b) := by rw [← HB0.out]; unfold numberL; rw [if_pos (.inr (.inl (by simpa using h10)))]
      injection hb with h1 h2
      subst h1 h2
      clear HB0 hlz
      go_enter Tryz.func120, Tryz.ntmps120
      go_wp2_with fail
      go_ret2
      exact ⟨rfl, rfl⟩
    · by_cases h48 : (s[0].toNat : Int) = 48 ∧ 1 < s.size
      · obtain ⟨h48, h1s⟩ := h48
        have hb : (0, false) = (r, b) := by
          have hd : s.data.toList.head? = some 48 := by
            rw [List.head?_eq_getElem?, List.getElem?_eq_getElem (by simpa using h0)]
            have : s[0].toNat = (48 : UInt8).toNat := by show s[0].toNat = 48; omega
            exact congrArg some (UInt8.toNat_inj.mp this)
          rw [← HB0.out]; unfold numberL
          rw [if_pos (.inr (.inr ⟨hd, by simpa using h1s⟩))]
        injection hb with h1 h2
        subst h1 h2
        clear HB0 hlz
        go_enter Tryz.func120, Tryz.ntmps120
        go_wp2_with fail
        go_ret2
        exact ⟨rfl, rfl⟩
      · have hl : (match numGo s.data.toList 0 with | some n => if 4294967295 < n then (0, false) else (n, true) | none => (0, false)) = (r, b) := by
          rw [← HB0.out]; unfold numberL
          rw [if_neg]
          rintro (h | h | ⟨h, h2⟩)
          · exact hlz h
          · exact h10 (by simpa using h)
          · rw [List.head?_eq_getElem?, List.getElem?_eq_getElem (by simpa using h0)] at h
            injection h with h
            exact h48 ⟨by show (s.data.toList[0].toNat : Int) = 48; rw [h]; rfl, by simpa using h2⟩
        have HL := Lib.hid hl
        clear hl HB0 hlz
        have h10' : s.size ≤ 10 := by omega
        have hfin : ∀ v : Int, numGo s.data.toList 0 = some v → (if 4294967295 < v then ((0 : Int), false) else (v, true)) = (r, b) := fun v hv => by
          have h := HL.out
          rw [hv] at h
          exact h
        have hbad : numGo s.data.toList 0 = none → ((0 : Int), false) = (r, b) := fun hv => by
          have h := HL.out
          rw [hv] at h
          exact h
        have HF := Lib.hid hfin
        have HN := Lib.hid hbad
        have HS := Lib.hid h48
        clear hfin hbad HL h48 h10
        go_enter Tryz.func120, Tryz.ntmps120
        by_cases h1s : 1 < s.size
        · have h4 : ¬ (s[0].toNat : Int) = 48 := fun h => HS.out ⟨h, h1s⟩
          have h4b : ((s[0].toNat : Int) == 48) = false := by simpa using h4
          clear HS
          go_wp2_with fail
          clear h4 h4b h1s
          go_loop [4, 5] (fun n i => ∃ (k : Nat) (v : Int), k ≤ s.size ∧ i = .int .i64 k ∧ n = .int .i64 v ∧ Hid (numGo (s.data.toList.drop k) v = numGo s.data.toList 0) ∧ Hid (0 ≤ v ∧ v < 10 ^ k)) (fun _ i => s.size - (intOf i).toNat)
          case atStart => exact ⟨0, 0, Nat.zero_le _, rfl, rfl, Lib.hid rfl, Lib.hid ⟨by decide, by decide⟩⟩
          case round =>
            obtain ⟨k, v, hk, rfl, rfl, HG, HV⟩ := hrel
            by_cases hlt : k < s.size
            · by_cases h1 : (s[k].toNat : Int) < 48
              · have hn := HN.out (HG.out.symm.trans (numGo_bad s k hlt v (.inl h1)))
                injection hn with hn1 hn2
                subst hn1 hn2
                clear HF HN HG HV
                go_wp2_with fail
                go_ret2
                exact ⟨rfl, rfl⟩
              · by_cases h2 : 57 < (s[k].toNat : Int)
                · have hn := HN.out (HG.out.symm.trans (numGo_bad s k hlt v (.inr h2)))
                  injection hn with hn1 hn2
                  subst hn1 hn2
                  clear HF HN HG HV
                  go_wp2_with fail
                  go_ret2
                  exact ⟨rfl, rfl⟩
                · have HG2 : Hid (numGo (s.data.toList.drop (k + 1)) (10 * v + ((s[k].toNat : Int) - 48)) = numGo s.data.toList 0) := Lib.hid (Int.mul_comm v 10 ▸ (numGo_step s k hlt v h1 h2).symm.trans HG.out)
                  have hp := pow10_step HV.out.1 HV.out.2 (show 0 ≤ (s[k].toNat : Int) - 48 by omega) (show (s[k].toNat : Int) - 48 ≤ 9 by omega)
                  have v0 : 0 ≤ v := HV.out.1
                  have v9 : v < 10000000000 := pow10_le (by omega) HV.out.2
                  rw [Int.mul_comm v 10] at hp
                  have HP := Lib.hid hp
                  clear hp HG HV HF HN
                  go_wp2_with fail
                  go_round
                  case rel => exact ⟨k + 1, _, by omega, by go_num, rfl, HG2, Lib.hid ⟨by omega, HP.out⟩⟩
                  case measure => simp [intOf]; omega
            · have hk2 : k = s.size := by omega
              subst hk2
              have hv := HG.out
              rw [numGo_end] at hv
              have hn := HF.out v hv.symm
              have v0 : 0 ≤ v := HV.out.1
              have v9 : v < 10000000000 := pow10_le (by omega) HV.out.2
              clear HF HN HG HV hv
              by_cases hb : 4294967295 < v
              · rw [if_pos hb] at hn
                injection hn with hn1 hn2
                subst hn1 hn2
                go_wp2_with fail
                go_ret2
                exact ⟨rfl, rfl⟩
              · rw [if_neg hb] at hn
                injection hn with hn1 hn2
                subst hn1 hn2
                go_wp2_with fail
                go_ret2
                exact ⟨rfl, rfl⟩
        · clear HS
          by_cases h4 : (s[0].toNat : Int) = 48
          · go_wp2_with fail
            clear h1s h4
            go_loop [4, 5] (fun n i => ∃ (k : Nat) (v : Int), k ≤ s.size ∧ i = .int .i64 k ∧ n = .int .i64 v ∧ Hid (numGo (s.data.toList.drop k) v = numGo s.data.toList 0) ∧ Hid (0 ≤ v ∧ v < 10 ^ k)) (fun _ i => s.size - (intOf i).toNat)
            case atStart => exact ⟨0, 0, Nat.zero_le _, rfl, rfl, Lib.hid rfl, Lib.hid ⟨by decide, by decide⟩⟩
            case round =>
              obtain ⟨k, v, hk, rfl, rfl, HG, HV⟩ := hrel
              by_cases hlt : k < s.size
              · by_cases h1 : (s[k].toNat : Int) < 48
                · have hn := HN.out (HG.out.symm.trans (numGo_bad s k hlt v (.inl h1)))
                  injection hn with hn1 hn2
                  subst hn1 hn2
                  clear HF HN HG HV
                  go_wp2_with fail
                  go_ret2
                  exact ⟨rfl, rfl⟩
                · by_cases h2 : 57 < (s[k].toNat : Int)
                  · have hn := HN.out (HG.out.symm.trans (numGo_bad s k hlt v (.inr h2)))
                    injection hn with hn1 hn2
                    subst hn1 hn2
                    clear HF HN HG HV
                    go_wp2_with fail
                    go_ret2
                    exact ⟨rfl, rfl⟩
                  · have HG2 : Hid (numGo (s.data.toList.drop (k + 1)) (10 * v + ((s[k].toNat : Int) - 48)) = numGo s.data.toList 0) := Lib.hid (Int.mul_comm v 10 ▸ (numGo_step s k hlt v h1 h2).symm.trans HG.out)
                    have hp := pow10_step HV.out.1 HV.out.2 (show 0 ≤ (s[k].toNat : Int) - 48 by omega) (show (s[k].toNat : Int) - 48 ≤ 9 by omega)
                    have v0 : 0 ≤ v := HV.out.1
                    have v9 : v < 10000000000 := pow10_le (by omega) HV.out.2
                    rw [Int.mul_comm v 10] at hp
                    have HP := Lib.hid hp
                    clear hp HG HV HF HN
                    go_wp2_with fail
                    go_round
                    case rel => exact ⟨k + 1, _, by omega, by go_num, rfl, HG2, Lib.hid ⟨by omega, HP.out⟩⟩
                    case measure => simp [intOf]; omega
              · have hk2 : k = s.size := by omega
                subst hk2
                have hv := HG.out
                rw [numGo_end] at hv
                have hn := HF.out v hv.symm
                have v0 : 0 ≤ v := HV.out.1
                have v9 : v < 10000000000 := pow10_le (by omega) HV.out.2
                clear HF HN HG HV hv
                by_cases hb : 4294967295 < v
                · rw [if_pos hb] at hn
                  injection hn with hn1 hn2
                  subst hn1 hn2
                  go_wp2_with fail
                  go_ret2
                  exact ⟨rfl, rfl⟩
                · rw [if_neg hb] at hn
                  injection hn with hn1 hn2
                  subst hn1 hn2
                  go_wp2_with fail
                  go_ret2
                  exact ⟨rfl, rfl⟩
          · go_wp2_with fail
            clear h1s h4
            go_loop [4, 5] (fun n i => ∃ (k : Nat) (v : Int), k ≤ s.size ∧ i = .int .i64 k ∧ n = .int .i64 v ∧ Hid (numGo (s.data.toList.drop k) v = numGo s.data.toList 0) ∧ Hid (0 ≤ v ∧ v < 10 ^ k)) (fun _ i => s.size - (intOf i).toNat)
            case atStart => exact ⟨0, 0, Nat.zero_le _, rfl, rfl, Lib.hid rfl, Lib.hid ⟨by decide, by decide⟩⟩
            case round =>
              obtain ⟨k, v, hk, rfl, rfl, HG, HV⟩ := hrel
              by_cases hlt : k < s.size
              · by_cases h1 : (s[k].toNat : Int) < 48
                · have hn := HN.out (HG.out.symm.trans (numGo_bad s k hlt v (.inl h1)))
                  injection hn with hn1 hn2
                  subst hn1 hn2
                  clear HF HN HG HV
                  go_wp2_with fail
                  go_ret2
                  exact ⟨rfl, rfl⟩
                · by_cases h2 : 57 < (s[k].toNat : Int)
                  · have hn := HN.out (HG.out.symm.trans (numGo_bad s k hlt v (.inr h2)))
                    injection hn with hn1 hn2
                    subst hn1 hn2
                    clear HF HN HG HV
                    go_wp2_with fail
                    go_ret2
                    exact ⟨rfl, rfl⟩
                  · have HG2 : Hid (numGo (s.data.toList.drop (k + 1)) (10 * v + ((s[k].toNat : Int) - 48)) = numGo s.data.toList 0) := Lib.hid (Int.mul_comm v 10 ▸ (numGo_step s k hlt v h1 h2).symm.trans HG.out)
                    have hp := pow10_step HV.out.1 HV.out.2 (show 0 ≤ (s[k].toNat : Int) - 48 by omega) (show (s[k].toNat : Int) - 48 ≤ 9 by omega)
                    have v0 : 0 ≤ v := HV.out.1
                    have v9 : v < 10000000000 := pow10_le (by omega) HV.out.2
                    rw [Int.mul_comm v 10] at hp
                    have HP := Lib.hid hp
                    clear hp HG HV HF HN
                    go_wp2_with fail
                    go_round
                    case rel => exact ⟨k + 1, _, by omega, by go_num, rfl, HG2, Lib.hid ⟨by omega, HP.out⟩⟩
                    case measure => simp [intOf]; omega
              · have hk2 : k = s.size := by omega
                subst hk2
                have hv := HG.out
                rw [numGo_end] at hv
                have hn := HF.out v hv.symm
                have v0 : 0 ≤ v := HV.out.1
                have v9 : v < 10000000000 := pow10_le (by omega) HV.out.2
                clear HF HN HG HV hv
                by_cases hb : 4294967295 < v
                · rw [if_pos hb] at hn
                  injection hn with hn1 hn2
                  subst hn1 hn2
                  go_wp2_with fail
                  go_ret2
                  exact ⟨rfl, rfl⟩
                · rw [if_neg hb] at hn
                  injection hn with hn1 hn2
                  subst hn1 hn2
                  go_wp2_with fail
                  go_ret2
                  exact ⟨rfl, rfl⟩

end Go.Proofs.YtnfabgbidkddhaaGreatDoor
