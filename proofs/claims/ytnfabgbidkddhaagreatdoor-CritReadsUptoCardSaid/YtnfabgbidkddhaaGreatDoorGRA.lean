/-
  The walks of text.Number and of the reference's Number: the number that digits are; the world is as it was.
  The walks of seq.one, of the reference's bound and of seq.part: the number that a word is, the range that a part is; nothing that was there turns.
  The walks of pillarboxref17.Ranges, pillarboxref17.In and seq.In: are two lists of ranges one; is a number within one of them.
  The walk of seq.Merge: ranges sorted, those that meet or touch as one, in memory of the call's own.
  The walk of seq.Merge, joined.
  Plain laws of the pieces of a text between the instances of one byte: the library's split is the plain recursion. No condition.
  The set that a text tells, plain.
  A day out of a text, plain: no program in sight.
-/
import Derived.Test.YtnfabgbidkddhaaGreatDoorGCA
import Derived.Test.YtnfabgbidkddhaaGreatDoorGCB
import Derived.Test.YtnfabgbidkddhaaGreatDoorProg
import Derived.Test.YtnfabgbidkddhaaGreatDoorShelf
import Derived.Laws.StructEq
import Derived.Shelf.SlicesQ.IndexFunc
import Derived.Ground.SlgfProg
import Derived.Deep.QuietTactic
import Derived.Deep.CutBlock
import Derived.BigQuiet
import Derived.Deep.DeepCutAuto
import Derived.StillTailTactics
import Derived.Lib.SplitLaws
import Derived.Lib.Split
namespace Go.Proofs.YtnfabgbidkddhaaGreatDoor
open Go.RowKit

def numGo : List UInt8 → Int → Option Int
  | [], n => some n
  | c :: r, n => if (c.toNat : Int) < 48 ∨ 57 < (c.toNat : Int) then none else numGo r (n * 10 + ((c.toNat : Int) - 48))

def numberL (l : List UInt8) : Int × Bool :=
  if l = [] ∨ 10 < l.length ∨ (l.head? = some 48 ∧ 1 < l.length) then (0, false)
  else match numGo l 0 with
    | some n => if 4294967295 < n then (0, false) else (n, true)
    | none => (0, false)

theorem numGo_step (s : ByteArray) (k : Nat) (h : k < s.size) (n : Int) (h1 : ¬ (s[k].toNat : Int) < 48) (h2 : ¬ 57 < (s[k].toNat : Int)) :
    numGo (s.data.toList.drop k) n = numGo (s.data.toList.drop (k + 1)) (n * 10 + ((s[k].toNat : Int) - 48)) := by
  rw [List.drop_eq_getElem_cons (by simpa using h)]
  show (if _ then _ else _) = _
  exact if_neg fun h => h.elim h1 h2
theorem numGo_bad (s : ByteArray) (k : Nat) (h : k < s.size) (n : Int) (hb : (s[k].toNat : Int) < 48 ∨ 57 < (s[k].toNat : Int)) :
    numGo (s.data.toList.drop k) n = none := by
  rw [List.drop_eq_getElem_cons (by simpa using h)]
  exact if_pos hb
theorem numGo_end (s : ByteArray) (n : Int) : numGo (s.data.toList.drop s.size) n = some n := by
  rw [List.drop_of_length_le (by simp)]
  rfl

theorem pow10_step {k : Nat} {n d : Int} (_ : 0 ≤ n) (h : n < 10 ^ k) (hd : 0 ≤ d) (hd9 : d ≤ 9) : n * 10 + d < 10 ^ (k + 1) := by
  rw [Int.pow_succ]
  omega
theorem pow10_le {k : Nat} (h : k ≤ 10) {n : Int} (hn : n < 10 ^ k) : n < 10000000000 := by
  have h2 : ∀ j : Nat, j ≤ 10 → (10 : Int) ^ j ≤ 10000000000 := by decide
  have := h2 k h
  omega

set_option maxRecDepth 100000 in
set_option maxHeartbeats 400000 in
theorem number_any (s : ByteArray) (w : World) (hs : s.size ≤ 140737488351232) :
    Calls Tryz.prog 139 #[.string s] w fun e w' => e = .returned (.tuple #[.int .i64 (numberL s.data.toList).1, .bool (numberL s.data.toList).2]) ∧ w = w' := by
  obtain ⟨r, b, hb⟩ : ∃ r b, numberL s.data.toList = (r, b) := ⟨_, _, rfl⟩
  rw [hb]
  have HB0 := Lib.hid hb
  clear hb
  by_cases he : s = ByteArray.empty
  · subst he
    have hb := HB0.out
    injection hb with h1 h2
    subst h1 h2
    clear HB0
    go_enter Tryz.func139, Tryz.ntmps139
    go_wp2_with fail
    go_ret2
    exact ⟨rfl, rfl⟩
  · have hne : s.toList.isEmpty = false := by
      rw [ByteArray.toList_eq, List.isEmpty_eq_false_iff]
      exact fun h => he (of_dataL s [] h)
    have h0 : 0 < s.size := by
      rcases Nat.eq_zero_or_pos s.size with h | h
      · exact absurd (of_dataL s [] (List.eq_nil_of_length_eq_zero (by simpa using h))) he
      · exact h
    have hlz : s.data.toList ≠ [] := fun h => he (of_dataL s [] h)
    clear he
    by_cases h10 : 10 < s.size
    · have hb : (0, false) = (r, b) := by rw [← HB0.out]; unfold numberL; rw [if_pos (.inr (.inl (by simpa using h10)))]
      injection hb with h1 h2
      subst h1 h2
      clear HB0 hlz
      go_enter Tryz.func139, Tryz.ntmps139
      go_wp2_with fail
      go_ret2
      exact ⟨rfl, rfl⟩
    · by_cases h48 : (s[0].toNat : Int) = 48 ∧ 1 < s.size
      · obtain ⟨h48, h1s⟩ := h48
        have hb : (0, false) = (r, b) := by
          have hd : s.data.toList.head? = some 48 := by
            rw [List.head?_eq_getElem?, List.getElem?_eq_getElem (by simpa using h0)]
            have : s[0].toNat = (48 : UInt8).toNat := by show s[0].toNat = 48; omega
            exact congrArg some (UInt8.toNat_inj.mp this)
          rw [← HB0.out]; unfold numberL
          rw [if_pos (.inr (.inr ⟨hd, by simpa using h1s⟩))]
        injection hb with h1 h2
        subst h1 h2
        clear HB0 hlz
        go_enter Tryz.func139, Tryz.ntmps139
        go_wp2_with fail
        go_ret2
        exact ⟨rfl, rfl⟩
      · have hl : (match numGo s.data.toList 0 with | some n => if 4294967295 < n then (0, false) else (n, true) | none => (0, false)) = (r, b) := by
          rw [← HB0.out]; unfold numberL
          rw [if_neg]
          rintro (h | h | ⟨h, h2⟩)
          · exact hlz h
          · exact h10 (by simpa using h)
          · rw [List.head?_eq_getElem?, List.getElem?_eq_getElem (by simpa using h0)] at h
            injection h with h
            exact h48 ⟨by show (s.data.toList[0].toNat : Int) = 48; rw [h]; rfl, by simpa using h2⟩
        have HL := Lib.hid hl
        clear hl HB0 hlz
        have h10' : s.size ≤ 10 := by omega
        have hfin : ∀ v : Int, numGo s.data.toList 0 = some v → (if 4294967295 < v then ((0 : Int), false) else (v, true)) = (r, b) := fun v hv => by
          have h := HL.out
          rw [hv] at h
          exact h
        have hbad : numGo s.data.toList 0 = none → ((0 : Int), false) = (r, b) := fun hv => by
          have h := HL.out
          rw [hv] at h
          exact h
        have HF := Lib.hid hfin
        have HN := Lib.hid hbad
        have HS := Lib.hid h48
        clear hfin hbad HL h48 h10
        go_enter Tryz.func139, Tryz.ntmps139
        by_cases h1s : 1 < s.size
        · have h4 : ¬ (s[0].toNat : Int) = 48 := fun h => HS.out ⟨h, h1s⟩
          clear HS
          go_wp2_with fail
          clear h4 h1s
          go_loop [4, 25] (fun n i => ∃ (k : Nat) (v : Int), k ≤ s.size ∧ i = .int .i64 k ∧ n = .int .i64 v ∧ Hid (numGo (s.data.toList.drop k) v = numGo s.data.toList 0) ∧ Hid (0 ≤ v ∧ v < 10 ^ k)) (fun _ i => s.size - (intOf i).toNat)
          case atStart => exact ⟨0, 0, Nat.zero_le _, rfl, rfl, Lib.hid rfl, Lib.hid ⟨by decide, by decide⟩⟩
          case round =>
            obtain ⟨k, v, hk, rfl, rfl, HG, HV⟩ := hrel
            by_cases hlt : k < s.size
            · by_cases h1 : (s[k].toNat : Int) < 48
              · have hn := HN.out (HG.out.symm.trans (numGo_bad s k hlt v (.inl h1)))
                injection hn with hn1 hn2
                subst hn1 hn2
                clear HF HN HG HV
                go_wp2_with fail
                go_ret2
                exact ⟨rfl, rfl⟩
              · by_cases h2 : 57 < (s[k].toNat : Int)
                · have hn := HN.out (HG.out.symm.trans (numGo_bad s k hlt v (.inr h2)))
                  injection hn with hn1 hn2
                  subst hn1 hn2
                  clear HF HN HG HV
                  go_wp2_with fail
                  go_ret2
                  exact ⟨rfl, rfl⟩
                · have HG2 := Lib.hid ((numGo_step s k hlt v h1 h2).symm.trans HG.out)
                  have hp := pow10_step HV.out.1 HV.out.2 (show 0 ≤ (s[k].toNat : Int) - 48 by omega) (show (s[k].toNat : Int) - 48 ≤ 9 by omega)
                  have v0 : 0 ≤ v := HV.out.1
                  have v9 : v < 10000000000 := pow10_le (by omega) HV.out.2
                  have HP := Lib.hid hp
                  clear hp HG HV HF HN
                  go_wp2_with fail
                  go_round
                  case rel => exact ⟨k + 1, _, by omega, by go_num, rfl, HG2, Lib.hid ⟨by omega, HP.out⟩⟩
                  case measure => simp [intOf]; omega
            · have hk2 : k = s.size := by omega
              subst hk2
              have hv := HG.out
              rw [numGo_end] at hv
              have hn := HF.out v hv.symm
              have v0 : 0 ≤ v := HV.out.1
              have v9 : v < 10000000000 := pow10_le (by omega) HV.out.2
              clear HF HN HG HV hv
              by_cases hb : 4294967295 < v
              · rw [if_pos hb] at hn
                injection hn with hn1 hn2
                subst hn1 hn2
                go_wp2_with fail
                go_ret2
                exact ⟨rfl, rfl⟩
              · rw [if_neg hb] at hn
                injection hn with hn1 hn2
                subst hn1 hn2
                go_wp2_with fail
                go_ret2
                exact ⟨rfl, rfl⟩
        · clear HS
          by_cases h4 : (s[0].toNat : Int) = 48
          · go_wp2_with fail
            clear h1s h4
            go_loop [4, 25] (fun n i => ∃ (k : Nat) (v : Int), k ≤ s.size ∧ i = .int .i64 k ∧ n = .int .i64 v ∧ Hid (numGo (s.data.toList.drop k) v = numGo s.data.toList 0) ∧ Hid (0 ≤ v ∧ v < 10 ^ k)) (fun _ i => s.size - (intOf i).toNat)
            case atStart => exact ⟨0, 0, Nat.zero_le _, rfl, rfl, Lib.hid rfl, Lib.hid ⟨by decide, by decide⟩⟩
            case round =>
              obtain ⟨k, v, hk, rfl, rfl, HG, HV⟩ := hrel
              by_cases hlt : k < s.size
              · by_cases h1 : (s[k].toNat : Int) < 48
                · have hn := HN.out (HG.out.symm.trans (numGo_bad s k hlt v (.inl h1)))
                  injection hn with hn1 hn2
                  subst hn1 hn2
                  clear HF HN HG HV
                  go_wp2_with fail
                  go_ret2
                  exact ⟨rfl, rfl⟩
                · by_cases h2 : 57 < (s[k].toNat : Int)
                  · have hn := HN.out (HG.out.symm.trans (numGo_bad s k hlt v (.inr h2)))
                    injection hn with hn1 hn2
                    subst hn1 hn2
                    clear HF HN HG HV
                    go_wp2_with fail
                    go_ret2
                    exact ⟨rfl, rfl⟩
                  · have HG2 := Lib.hid ((numGo_step s k hlt v h1 h2).symm.trans HG.out)
                    have hp := pow10_step HV.out.1 HV.out.2 (show 0 ≤ (s[k].toNat : Int) - 48 by omega) (show (s[k].toNat : Int) - 48 ≤ 9 by omega)
                    have v0 : 0 ≤ v := HV.out.1
                    have v9 : v < 10000000000 := pow10_le (by omega) HV.out.2
                    have HP := Lib.hid hp
                    clear hp HG HV HF HN
                    go_wp2_with fail
                    go_round
                    case rel => exact ⟨k + 1, _, by omega, by go_num, rfl, HG2, Lib.hid ⟨by omega, HP.out⟩⟩
                    case measure => simp [intOf]; omega
              · have hk2 : k = s.size := by omega
                subst hk2
                have hv := HG.out
                rw [numGo_end] at hv
                have hn := HF.out v hv.symm
                have v0 : 0 ≤ v := HV.out.1
                have v9 : v < 10000000000 := pow10_le (by omega) HV.out.2
                clear HF HN HG HV hv
                by_cases hb : 4294967295 < v
                · rw [if_pos hb] at hn
                  injection hn with hn1 hn2
                  subst hn1 hn2
                  go_wp2_with fail
                  go_ret2
                  exact ⟨rfl, rfl⟩
                · rw [if_neg hb] at hn
                  injection hn with hn1 hn2
                  subst hn1 hn2
                  go_wp2_with fail
                  go_ret2
                  exact ⟨rfl, rfl⟩
          · go_wp2_with fail
            clear h1s h4
            go_loop [4, 25] (fun n i => ∃ (k : Nat) (v : Int), k ≤ s.size ∧ i = .int .i64 k ∧ n = .int .i64 v ∧ Hid (numGo (s.data.toList.drop k) v = numGo s.data.toList 0) ∧ Hid (0 ≤ v ∧ v < 10 ^ k)) (fun _ i => s.size - (intOf i).toNat)
            case atStart => exact ⟨0, 0, Nat.zero_le _, rfl, rfl, Lib.hid rfl, Lib.hid ⟨by decide, by decide⟩⟩
            case round =>
              obtain ⟨k, v, hk, rfl, rfl, HG, HV⟩ := hrel
              by_cases hlt : k < s.size
              · by_cases h1 : (s[k].toNat : Int) < 48
                · have hn := HN.out (HG.out.symm.trans (numGo_bad s k hlt v (.inl h1)))
                  injection hn with hn1 hn2
                  subst hn1 hn2
                  clear HF HN HG HV
                  go_wp2_with fail
                  go_ret2
                  exact ⟨rfl, rfl⟩
                · by_cases h2 : 57 < (s[k].toNat : Int)
                  · have hn := HN.out (HG.out.symm.trans (numGo_bad s k hlt v (.inr h2)))
                    injection hn with hn1 hn2
                    subst hn1 hn2
                    clear HF HN HG HV
                    go_wp2_with fail
                    go_ret2
                    exact ⟨rfl, rfl⟩
                  · have HG2 := Lib.hid ((numGo_step s k hlt v h1 h2).symm.trans HG.out)
                    have hp := pow10_step HV.out.1 HV.out.2 (show 0 ≤ (s[k].toNat : Int) - 48 by omega) (show (s[k].toNat : Int) - 48 ≤ 9 by omega)
                    have v0 : 0 ≤ v := HV.out.1
                    have v9 : v < 10000000000 := pow10_le (by omega) HV.out.2
                    have HP := Lib.hid hp
                    clear hp HG HV HF HN
                    go_wp2_with fail
                    go_round
                    case rel => exact ⟨k + 1, _, by omega, by go_num, rfl, HG2, Lib.hid ⟨by omega, HP.out⟩⟩
                    case measure => simp [intOf]; omega
              · have hk2 : k = s.size := by omega
                subst hk2
                have hv := HG.out
                rw [numGo_end] at hv
                have hn := HF.out v hv.symm
                have v0 : 0 ≤ v := HV.out.1
                have v9 : v < 10000000000 := pow10_le (by omega) HV.out.2
                clear HF HN HG HV hv
                by_cases hb : 4294967295 < v
                · rw [if_pos hb] at hn
                  injection hn with hn1 hn2
                  subst hn1 hn2
                  go_wp2_with fail
                  go_ret2
                  exact ⟨rfl, rfl⟩
                · rw [if_neg hb] at hn
                  injection hn with hn1 hn2
                  subst hn1 hn2
                  go_wp2_with fail
                  go_ret2
                  exact ⟨rfl, rfl⟩

set_option maxRecDepth 100000 in
set_option maxHeartbeats 400000 in
theorem refNumber_any (s : ByteArray) (w : World) (hs : s.size ≤ 140737488351232) :
    Calls Tryz.prog 120 #[.string s] w fun e w' => e = .returned (.tuple #[.int .i64 (numberL s.data.toList).1, .bool (numberL s.data.toList).2]) ∧ w = w' := by
  obtain ⟨r, b, hb⟩ : ∃ r b, numberL s.data.toList = (r, b) := ⟨_, _, rfl⟩
  rw [hb]
  have HB0 := Lib.hid hb
  clear hb
  by_cases he : s = ByteArray.empty
  · subst he
    have hb := HB0.out
    injection hb with h1 h2
    subst h1 h2
    clear HB0
    go_enter Tryz.func120, Tryz.ntmps120
    go_wp2_with fail
    go_ret2
    exact ⟨rfl, rfl⟩
  · have hne : s.toList.isEmpty = false := by
      rw [ByteArray.toList_eq, List.isEmpty_eq_false_iff]
      exact fun h => he (of_dataL s [] h)
    have h0 : 0 < s.size := by
      rcases Nat.eq_zero_or_pos s.size with h | h
      · exact absurd (of_dataL s [] (List.eq_nil_of_length_eq_zero (by simpa using h))) he
      · exact h
    have hlz : s.data.toList ≠ [] := fun h => he (of_dataL s [] h)
    clear he
    by_cases h10 : 10 < s.size
    · have hb : (0, false) = (r, b) := by rw [← HB0.out]; unfold numberL; rw [if_pos (.inr (.inl (by simpa using h10)))]
      injection hb with h1 h2
      subst h1 h2
      clear HB0 hlz
      go_enter Tryz.func120, Tryz.ntmps120
      go_wp2_with fail
      go_ret2
      exact ⟨rfl, rfl⟩
    · by_cases h48 : (s[0].toNat : Int) = 48 ∧ 1 < s.size
      · obtain ⟨h48, h1s⟩ := h48
        have hb : (0, false) = (r, b) := by
          have hd : s.data.toList.head? = some 48 := by
            rw [List.head?_eq_getElem?, List.getElem?_eq_getElem (by simpa using h0)]
            have : s[0].toNat = (48 : UInt8).toNat := by show s[0].toNat = 48; omega
            exact congrArg some (UInt8.toNat_inj.mp this)
          rw [← HB0.out]; unfold numberL
          rw [if_pos (.inr (.inr ⟨hd, by simpa using h1s⟩))]
        injection hb with h1 h2
        subst h1 h2
        clear HB0 hlz
        go_enter Tryz.func120, Tryz.ntmps120
        go_wp2_with fail
        go_ret2
        exact ⟨rfl, rfl⟩
      · have hl : (match numGo s.data.toList 0 with | some n => if 4294967295 < n then (0, false) else (n, true) | none => (0, false)) = (r, b) := by
          rw [← HB0.out]; unfold numberL
          rw [if_neg]
          rintro (h | h | ⟨h, h2⟩)
          · exact hlz h
          · exact h10 (by simpa using h)
          · rw [List.head?_eq_getElem?, List.getElem?_eq_getElem (by simpa using h0)] at h
            injection h with h
            exact h48 ⟨by show (s.data.toList[0].toNat : Int) = 48; rw [h]; rfl, by simpa using h2⟩
        have HL := Lib.hid hl
        clear hl HB0 hlz
        have h10' : s.size ≤ 10 := by omega
        have hfin : ∀ v : Int, numGo s.data.toList 0 = some v → (if 4294967295 < v then ((0 : Int), false) else (v, true)) = (r, b) := fun v hv => by
          have h := HL.out
          rw [hv] at h
          exact h
        have hbad : numGo s.data.toList 0 = none → ((0 : Int), false) = (r, b) := fun hv => by
          have h := HL.out
          rw [hv] at h
          exact h
        have HF := Lib.hid hfin
        have HN := Lib.hid hbad
        have HS := Lib.hid h48
        clear hfin hbad HL h48 h10
        go_enter Tryz.func120, Tryz.ntmps120
        by_cases h1s : 1 < s.size
        · have h4 : ¬ (s[0].toNat : Int) = 48 := fun h => HS.out ⟨h, h1s⟩
          have h4b : ((s[0].toNat : Int) == 48) = false := by simpa using h4
          clear HS
          go_wp2_with fail
          clear h4 h4b h1s
          go_loop [4, 5] (fun n i => ∃ (k : Nat) (v : Int), k ≤ s.size ∧ i = .int .i64 k ∧ n = .int .i64 v ∧ Hid (numGo (s.data.toList.drop k) v = numGo s.data.toList 0) ∧ Hid (0 ≤ v ∧ v < 10 ^ k)) (fun _ i => s.size - (intOf i).toNat)
          case atStart => exact ⟨0, 0, Nat.zero_le _, rfl, rfl, Lib.hid rfl, Lib.hid ⟨by decide, by decide⟩⟩
          case round =>
            obtain ⟨k, v, hk, rfl, rfl, HG, HV⟩ := hrel
            by_cases hlt : k < s.size
            · by_cases h1 : (s[k].toNat : Int) < 48
              · have hn := HN.out (HG.out.symm.trans (numGo_bad s k hlt v (.inl h1)))
                injection hn with hn1 hn2
                subst hn1 hn2
                clear HF HN HG HV
                go_wp2_with fail
                go_ret2
                exact ⟨rfl, rfl⟩
              · by_cases h2 : 57 < (s[k].toNat : Int)
                · have hn := HN.out (HG.out.symm.trans (numGo_bad s k hlt v (.inr h2)))
                  injection hn with hn1 hn2
                  subst hn1 hn2
                  clear HF HN HG HV
                  go_wp2_with fail
                  go_ret2
                  exact ⟨rfl, rfl⟩
                · have HG2 : Hid (numGo (s.data.toList.drop (k + 1)) (10 * v + ((s[k].toNat : Int) - 48)) = numGo s.data.toList 0) := Lib.hid (Int.mul_comm v 10 ▸ (numGo_step s k hlt v h1 h2).symm.trans HG.out)
                  have hp := pow10_step HV.out.1 HV.out.2 (show 0 ≤ (s[k].toNat : Int) - 48 by omega) (show (s[k].toNat : Int) - 48 ≤ 9 by omega)
                  have v0 : 0 ≤ v := HV.out.1
                  have v9 : v < 10000000000 := pow10_le (by omega) HV.out.2
                  rw [Int.mul_comm v 10] at hp
                  have HP := Lib.hid hp
                  clear hp HG HV HF HN
                  go_wp2_with fail
                  go_round
                  case rel => exact ⟨k + 1, _, by omega, by go_num, rfl, HG2, Lib.hid ⟨by omega, HP.out⟩⟩
                  case measure => simp [intOf]; omega
            · have hk2 : k = s.size := by omega
              subst hk2
              have hv := HG.out
              rw [numGo_end] at hv
              have hn := HF.out v hv.symm
              have v0 : 0 ≤ v := HV.out.1
              have v9 : v < 10000000000 := pow10_le (by omega) HV.out.2
              clear HF HN HG HV hv
              by_cases hb : 4294967295 < v
              · rw [if_pos hb] at hn
                injection hn with hn1 hn2
                subst hn1 hn2
                go_wp2_with fail
                go_ret2
                exact ⟨rfl, rfl⟩
              · rw [if_neg hb] at hn
                injection hn with hn1 hn2
                subst hn1 hn2
                go_wp2_with fail
                go_ret2
                exact ⟨rfl, rfl⟩
        · clear HS
          by_cases h4 : (s[0].toNat : Int) = 48
          · go_wp2_with fail
            clear h1s h4
            go_loop [4, 5] (fun n i => ∃ (k : Nat) (v : Int), k ≤ s.size ∧ i = .int .i64 k ∧ n = .int .i64 v ∧ Hid (numGo (s.data.toList.drop k) v = numGo s.data.toList 0) ∧ Hid (0 ≤ v ∧ v < 10 ^ k)) (fun _ i => s.size - (intOf i).toNat)
            case atStart => exact ⟨0, 0, Nat.zero_le _, rfl, rfl, Lib.hid rfl, Lib.hid ⟨by decide, by decide⟩⟩
            case round =>
              obtain ⟨k, v, hk, rfl, rfl, HG, HV⟩ := hrel
              by_cases hlt : k < s.size
              · by_cases h1 : (s[k].toNat : Int) < 48
                · have hn := HN.out (HG.out.symm.trans (numGo_bad s k hlt v (.inl h1)))
                  injection hn with hn1 hn2
                  subst hn1 hn2
                  clear HF HN HG HV
                  go_wp2_with fail
                  go_ret2
                  exact ⟨rfl, rfl⟩
                · by_cases h2 : 57 < (s[k].toNat : Int)
                  · have hn := HN.out (HG.out.symm.trans (numGo_bad s k hlt v (.inr h2)))
                    injection hn with hn1 hn2
                    subst hn1 hn2
                    clear HF HN HG HV
                    go_wp2_with fail
                    go_ret2
                    exact ⟨rfl, rfl⟩
                  · have HG2 : Hid (numGo (s.data.toList.drop (k + 1)) (10 * v + ((s[k].toNat : Int) - 48)) = numGo s.data.toList 0) := Lib.hid (Int.mul_comm v 10 ▸ (numGo_step s k hlt v h1 h2).symm.trans HG.out)
                    have hp := pow10_step HV.out.1 HV.out.2 (show 0 ≤ (s[k].toNat : Int) - 48 by omega) (show (s[k].toNat : Int) - 48 ≤ 9 by omega)
                    have v0 : 0 ≤ v := HV.out.1
                    have v9 : v < 10000000000 := pow10_le (by omega) HV.out.2
                    rw [Int.mul_comm v 10] at hp
                    have HP := Lib.hid hp
                    clear hp HG HV HF HN
                    go_wp2_with fail
                    go_round
                    case rel => exact ⟨k + 1, _, by omega, by go_num, rfl, HG2, Lib.hid ⟨by omega, HP.out⟩⟩
                    case measure => simp [intOf]; omega
              · have hk2 : k = s.size := by omega
                subst hk2
                have hv := HG.out
                rw [numGo_end] at hv
                have hn := HF.out v hv.symm
                have v0 : 0 ≤ v := HV.out.1
                have v9 : v < 10000000000 := pow10_le (by omega) HV.out.2
                clear HF HN HG HV hv
                by_cases hb : 4294967295 < v
                · rw [if_pos hb] at hn
                  injection hn with hn1 hn2
                  subst hn1 hn2
                  go_wp2_with fail
                  go_ret2
                  exact ⟨rfl, rfl⟩
                · rw [if_neg hb] at hn
                  injection hn with hn1 hn2
                  subst hn1 hn2
                  go_wp2_with fail
                  go_ret2
                  exact ⟨rfl, rfl⟩
          · go_wp2_with fail
            clear h1s h4
            go_loop [4, 5] (fun n i => ∃ (k : Nat) (v : Int), k ≤ s.size ∧ i = .int .i64 k ∧ n = .int .i64 v ∧ Hid (numGo (s.data.toList.drop k) v = numGo s.data.toList 0) ∧ Hid (0 ≤ v ∧ v < 10 ^ k)) (fun _ i => s.size - (intOf i).toNat)
            case atStart => exact ⟨0, 0, Nat.zero_le _, rfl, rfl, Lib.hid rfl, Lib.hid ⟨by decide, by decide⟩⟩
            case round =>
              obtain ⟨k, v, hk, rfl, rfl, HG, HV⟩ := hrel
              by_cases hlt : k < s.size
              · by_cases h1 : (s[k].toNat : Int) < 48
                · have hn := HN.out (HG.out.symm.trans (numGo_bad s k hlt v (.inl h1)))
                  injection hn with hn1 hn2
                  subst hn1 hn2
                  clear HF HN HG HV
                  go_wp2_with fail
                  go_ret2
                  exact ⟨rfl, rfl⟩
                · by_cases h2 : 57 < (s[k].toNat : Int)
                  · have hn := HN.out (HG.out.symm.trans (numGo_bad s k hlt v (.inr h2)))
                    injection hn with hn1 hn2
                    subst hn1 hn2
                    clear HF HN HG HV
                    go_wp2_with fail
                    go_ret2
                    exact ⟨rfl, rfl⟩
                  · have HG2 : Hid (numGo (s.data.toList.drop (k + 1)) (10 * v + ((s[k].toNat : Int) - 48)) = numGo s.data.toList 0) := Lib.hid (Int.mul_comm v 10 ▸ (numGo_step s k hlt v h1 h2).symm.trans HG.out)
                    have hp := pow10_step HV.out.1 HV.out.2 (show 0 ≤ (s[k].toNat : Int) - 48 by omega) (show (s[k].toNat : Int) - 48 ≤ 9 by omega)
                    have v0 : 0 ≤ v := HV.out.1
                    have v9 : v < 10000000000 := pow10_le (by omega) HV.out.2
                    rw [Int.mul_comm v 10] at hp
                    have HP := Lib.hid hp
                    clear hp HG HV HF HN
                    go_wp2_with fail
                    go_round
                    case rel => exact ⟨k + 1, _, by omega, by go_num, rfl, HG2, Lib.hid ⟨by omega, HP.out⟩⟩
                    case measure => simp [intOf]; omega
              · have hk2 : k = s.size := by omega
                subst hk2
                have hv := HG.out
                rw [numGo_end] at hv
                have hn := HF.out v hv.symm
                have v0 : 0 ≤ v := HV.out.1
                have v9 : v < 10000000000 := pow10_le (by omega) HV.out.2
                clear HF HN HG HV hv
                by_cases hb : 4294967295 < v
                · rw [if_pos hb] at hn
                  injection hn with hn1 hn2
                  subst hn1 hn2
                  go_wp2_with fail
                  go_ret2
                  exact ⟨rfl, rfl⟩
                · rw [if_neg hb] at hn
                  injection hn with hn1 hn2
                  subst hn1 hn2
                  go_wp2_with fail
                  go_ret2
                  exact ⟨rfl, rfl⟩

end Go.Proofs.YtnfabgbidkddhaaGreatDoor

namespace Go.Proofs.YtnfabgbidkddhaaGreatDoor
open Go.RowKit

theorem run_max_int {P : Program} (ats : Array TypeId) (ty : TypeId) (a b : Int) (w : World) : (Builtin.max_ ats ty #[.int .i64 a, .int .i64 b]).run P w = .ok (.int .i64 (if a < b then b else a)) w := by
  simp [Builtin.max_, Builtin.max2]
theorem run_min_int {P : Program} (ats : Array TypeId) (ty : TypeId) (a b : Int) (w : World) : (Builtin.min_ ats ty #[.int .i64 a, .int .i64 b]).run P w = .ok (.int .i64 (if b < a then b else a)) w := by
  simp [Builtin.min_, Builtin.min2]

/-- What the library's one variable that is not listed holds: an int, whatever it be. -/
def Mx (w : World) : Prop := ∃ m, w.cell? ⟨0, 0, none⟩ = some (.int .i64 m)
theorem Mx.below {w w' : World} (h : Mx w) (hb : Below w.heap.size w w') : Mx w' := by
  obtain ⟨m, hm⟩ := h
  exact ⟨m, (hb.cell (p := ⟨0, 0, none⟩) (World.block_lt_of_cell? _ _ hm)).trans hm⟩

def boundL (l : List UInt8) (star : Int) : Int × Bool :=
  if l = [42] then (if star < 0 then 0 else star, true)
  else ((numberL l).1, (numberL l).2 && decide (0 < (numberL l).1))

theorem numberL_ge (l : List UInt8) : 0 ≤ (numberL l).1 := by
  have hgo : ∀ (l : List UInt8) (n m : Int), 0 ≤ n → numGo l n = some m → 0 ≤ m := by
    intro l
    induction l with
    | nil => intro n m h0 h; injection h with h; omega
    | cons c r ih =>
      intro n m h0 h
      unfold numGo at h
      split at h
      · cases h
      · exact ih _ m (by omega) h
  unfold numberL
  split
  · exact Int.le_refl _
  · split
    · rename_i n hn
      split
      · exact Int.le_refl _
      · exact hgo _ _ _ (Int.le_refl _) hn
    · exact Int.le_refl _

set_option maxRecDepth 100000 in
set_option maxHeartbeats 400000 in
theorem one_any (s : ByteArray) (star : Int) (w : World) (hs : s.size ≤ 140737488351232) :
    Calls Tryz.prog 133 #[.string s, .int .i64 star] w fun e w' => e = .returned (.tuple #[.int .i64 (boundL s.data.toList star).1, .bool (boundL s.data.toList star).2]) ∧ w = w' := by
  have hn := number_any s w hs
  have hmx := @run_max_int Tryz.prog
  by_cases hst : s = ⟨#[42]⟩
  · subst hst
    have hb : boundL (ByteArray.mk #[42]).data.toList star = (if star < 0 then 0 else star, true) := if_pos rfl
    rw [hb]
    clear hn hb
    go_enter Tryz.func133, Tryz.ntmps133
    go_wp2_with fail
    all_goals
      go_ret2
      exact ⟨rfl, rfl⟩
  · have hne := ne_toListB s [42] hst
    have hb : boundL s.data.toList star = ((numberL s.data.toList).1, (numberL s.data.toList).2 && decide (0 < (numberL s.data.toList).1)) := if_neg fun h => hst (of_dataL s [42] h)
    rw [hb]
    clear hb hst
    generalize numberL s.data.toList = r at hn
    obtain ⟨n, b⟩ := r
    cases b
    · go_enter Tryz.func133, Tryz.ntmps133
      go_wp2_with (go_at_call 139; refine hn.mono ?_; rintro e w' ⟨rfl, rfl⟩)
      go_ret2
      exact ⟨rfl, rfl⟩
    · go_enter Tryz.func133, Tryz.ntmps133
      go_wp2_with (go_at_call 139; refine hn.mono ?_; rintro e w' ⟨rfl, rfl⟩)
      go_ret2
      exact ⟨by simp, rfl⟩

set_option maxRecDepth 100000 in
set_option maxHeartbeats 400000 in
theorem refBound_any (s : ByteArray) (star : Int) (w : World) (hs : s.size ≤ 140737488351232) :
    Calls Tryz.prog 116 #[.string s, .int .i64 star] w fun e w' => e = .returned (.tuple #[.int .i64 (boundL s.data.toList star).1, .bool (boundL s.data.toList star).2]) ∧ w = w' := by
  have hn := refNumber_any s w hs
  have hmx := @run_max_int Tryz.prog
  by_cases hst : s = ⟨#[42]⟩
  · subst hst
    have hb : boundL (ByteArray.mk #[42]).data.toList star = (if star < 0 then 0 else star, true) := if_pos rfl
    rw [hb]
    clear hn hb
    go_enter Tryz.func116, Tryz.ntmps116
    go_wp2_with fail
    all_goals
      go_ret2
      exact ⟨rfl, rfl⟩
  · have hne := ne_toListB s [42] hst
    have hb : boundL s.data.toList star = ((numberL s.data.toList).1, (numberL s.data.toList).2 && decide (0 < (numberL s.data.toList).1)) := if_neg fun h => hst (of_dataL s [42] h)
    rw [hb]
    clear hb hst
    generalize numberL s.data.toList = r at hn
    obtain ⟨n, b⟩ := r
    cases b
    · go_enter Tryz.func116, Tryz.ntmps116
      go_wp2_with (go_at_call 120; refine hn.mono ?_; rintro e w' ⟨rfl, rfl⟩)
      go_ret2
      exact ⟨rfl, rfl⟩
    · go_enter Tryz.func116, Tryz.ntmps116
      go_wp2_with (go_at_call 120; refine hn.mono ?_; rintro e w' ⟨rfl, rfl⟩)
      go_ret2
      exact ⟨by simp, rfl⟩

theorem below_drewN {B : Nat} {w w' : World} (h : Below B w w') (n : Nat) : Below B w (w'.drewN n) := ⟨h.os, h.tape, h.output, h.size, h.block⟩

def cutL (l : List UInt8) : List UInt8 × List UInt8 :=
  ((Lib.cut l [58]).1, if (Lib.cut l [58]).2.2 then (Lib.cut l [58]).2.1 else (Lib.cut l [58]).1)
def partL (l : List UInt8) (star : Int) : (Int × Int) × Bool :=
  let x := boundL (cutL l).1 star
  let y := boundL (cutL l).2 star
  ((if y.1 < x.1 then y.1 else x.1, if x.1 < y.1 then y.1 else x.1), x.2 && y.2)

theorem cut_len (l : List UInt8) : (Lib.cut l [58]).1.length ≤ l.length ∧ (Lib.cut l [58]).2.1.length ≤ l.length := by
  unfold Lib.cut
  split
  · exact ⟨by simp; omega, by simp⟩
  · exact ⟨Nat.le_refl _, by simp⟩

set_option maxRecDepth 100000 in
set_option maxHeartbeats 1000000 in
theorem part_any (s : ByteArray) (star : Int) (w : World) (hs : s.size ≤ 2000) (hm : Mx w) :
    Calls Tryz.prog 98 #[.string s, .int .i64 star] w fun e w' => e = .returned (.tuple #[.agg #[.int .i64 (partL s.data.toList star).1.1, .int .i64 (partL s.data.toList star).1.2], .bool (partL s.data.toList star).2]) ∧ Below w.heap.size w w' := by
  obtain ⟨m, hm0⟩ := hm
  have hlt := World.block_lt_of_cell? _ _ hm0
  have hcut := fun W (hb : Below w.heap.size w W) => Tryz.strings_Cut s ⟨#[58]⟩ m W (by omega) ((hb.cell (p := ⟨0, 0, none⟩) hlt).trans hm0)
  simp only at hcut
  obtain ⟨ca, cb⟩ := cut_len s.data.toList
  obtain ⟨q, hq⟩ : ∃ q, Lib.cut s.data.toList [58] = q := ⟨_, rfl⟩
  unfold partL cutL
  rw [hq] at ca cb ⊢
  simp only [hq] at hcut
  obtain ⟨a, b, two⟩ := q
  simp only at ca cb hcut ⊢
  have ho1 := fun W => one_any ⟨a.toArray⟩ star W (by show a.toArray.size ≤ _; simp at ca ⊢; omega)
  have ho2 := fun W => one_any ⟨(if two then b else a).toArray⟩ star W (by show (if two then b else a).toArray.size ≤ _; cases two <;> simp at ca cb ⊢ <;> omega)
  simp only at ho1 ho2
  generalize boundL a star = x at ho1
  generalize boundL (if two then b else a) star = y at ho2
  obtain ⟨x, bx⟩ := x
  obtain ⟨y, bz⟩ := y
  have hmx := fun ats ty W => run_max_int (P := Tryz.prog) ats ty x y W
  have hmn := fun ats ty W => run_min_int (P := Tryz.prog) ats ty x y W
  simp only at ho1 ho2 ⊢
  generalize (if x < y then y else x) = hi at hmx
  generalize (if y < x then y else x) = lo at hmn
  clear hq ca cb hm0 hlt hs
  cases two <;> cases bx <;> simp only [Bool.false_eq_true, if_false, if_true] at ho2
  all_goals
    go_enter Tryz.func98, Tryz.ntmps98
    go_wp2_with (first
      | (go_at_call 92; refine (hcut _ ((Below.refl _ w).alloc (Nat.le_refl _) _)).mono ?_; rintro e w2 ⟨rfl, q, rfl⟩; clear hcut)
      | (go_at_call 133; with_reducible refine (ho1 _).mono ?_; rintro e w3 ⟨rfl, rfl⟩; clear ho1)
      | (go_at_call 133; with_reducible refine (ho2 _).mono ?_; rintro e w3 ⟨rfl, rfl⟩; clear ho2)
      | fail)
    have B0 := (((Blk.new w 75 #[.int .i64 0, .int .i64 0]).heap (w' := (w.alloc (.cells #[.int .i64 0, .int .i64 0] 75)).drewN q) rfl).set 0 (.int .i64 lo)).set 1 (.int .i64 hi)
    have c0 := B0.cell 0
    have c1 := B0.cell 1
    refine bodyPost_ret (v := .tuple #[.agg #[.int .i64 lo, .int .i64 hi], .bool _]) ?_ rfl ⟨rfl, ?_⟩
    · simp [results, Tryz.results98, go_sem, c0, c1]
    · exact ((below_drewN ((Below.refl _ w).alloc (Nat.le_refl _) _) q).setCell (Nat.le_refl _) _).setCell (Nat.le_refl _) _

end Go.Proofs.YtnfabgbidkddhaaGreatDoor

namespace Go.Proofs.YtnfabgbidkddhaaGreatDoor
open Go.Shelf Go.RowKit Go.Lib
attribute [local go_sem ↓] Go.wp_at_zero Go.wp_at_succ

set_option maxRecDepth 100000 in
set_option maxHeartbeats 2000000 in
theorem ranges_any (w : World) (va vb : Value) (a b : List Rg) (ha : RdS w [] 2 va a.length (flatR a)) (hb : RdS w [] 2 vb b.length (flatR b)) :
    Calls Tryz.prog 21 #[va, vb] w fun e w' => e = .returned (.bool (decide (a = b))) ∧ Below w.heap.size w w' := by
  obtain ⟨n, hn⟩ : ∃ n, a.length = n := ⟨_, rfl⟩
  obtain ⟨m, hm⟩ : ∃ m, b.length = m := ⟨_, rfl⟩
  rw [hn] at ha
  rw [hm] at hb
  obtain ⟨A, ca, rfl, hca1, hca2⟩ := ha.form
  have hnb : n ≤ 9223372036854775807 := by
    unfold maxLen at hca2
    omega
  obtain ⟨B, cb, rfl, _, _⟩ := hb.form
  have HA := Lib.hid ha
  have HB := Lib.hid hb
  have HN := Lib.hid hn
  have HM := Lib.hid hm
  clear hn hm ha hb
  go_enter Tryz.func21, Tryz.ntmps21
  by_cases hnm : n = m
  · subst hnm
    go_wp2_with fail
    go_loopw [5] (fun i wr => ∃ (k : Nat), k ≤ n ∧ i = .int .i64 k ∧ Hid (Below w.heap.size w wr ∧ a.take k = b.take k)) (fun i _ => n - (intOf i).toNat)
    case atStart => exact ⟨0, Nat.zero_le _, rfl, ⟨Below.refl _ _, rfl⟩⟩
    case round =>
      obtain ⟨k, hk, rfl, HU⟩ := hrel
      by_cases hlt : k < n
      · have hka : k < a.length := by rw [HN.out]; exact hlt
        have hkb : k < b.length := by rw [HM.out]; exact hlt
        have hsz := HU.out.1.size
        obtain ⟨ba, offa, ca', hva, _, _, hbla, _, hca⟩ := HA.out.at_ (by omega)
        injection hva with hva1 hva2 hva3
        subst hva1
        obtain ⟨bb, offb, cb', hvb, _, _, hblb, _, hcb⟩ := HB.out.at_ (by omega)
        injection hvb with hvb1 hvb2 hvb3
        subst hvb1
        clear hva2 hva3 hvb2 hvb3
        obtain ⟨f0, f1⟩ := flatR_at a k hka
        obtain ⟨g0, g1⟩ := flatR_at b k hkb
        have rda : ∀ j, j < n * 2 → wr.cell? ⟨ba, offa + j, none⟩ = (flatR a)[j]? := fun j hj => (HU.out.1.cell (p := ⟨ba, offa + j, none⟩) hbla).trans (hca j hj)
        have rdb : ∀ j, j < n * 2 → wr.cell? ⟨bb, offb + j, none⟩ = (flatR b)[j]? := fun j hj => (HU.out.1.cell (p := ⟨bb, offb + j, none⟩) hblb).trans (hcb j hj)
        have d0 : wr.cell? ⟨ba, offa + k * 2, none⟩ = some (.int .i64 a[k].1) := (rda (k * 2) (by omega)).trans f0
        have d1 : wr.cell? ⟨ba, offa + k * 2 + 1, none⟩ = some (.int .i64 a[k].2) := (rda (k * 2 + 1) (by omega)).trans f1
        have e0 : wr.cell? ⟨bb, offb + k * 2, none⟩ = some (.int .i64 b[k].1) := (rdb (k * 2) (by omega)).trans g0
        have e1 : wr.cell? ⟨bb, offb + k * 2 + 1, none⟩ = some (.int .i64 b[k].2) := (rdb (k * 2 + 1) (by omega)).trans g1
        clear rda rdb hca hcb f0 f1 g0 g1
        have hlb : ba < wr.heap.size := by omega
        have hlbb : bb < wr.heap.size := by omega
        by_cases he : a[k] = b[k]
        · have hnext : a.take (k + 1) = b.take (k + 1) := by
            rw [List.take_succ_eq_append_getElem hka, List.take_succ_eq_append_getElem hkb, HU.out.2, he]
          rw [he] at d0 d1
          have HNEXT := Lib.hid hnext
          clear hnext he
          generalize b[k] = z at d0 d1 e0 e1
          go_wp2_with fail
          go_quiet (fail)
          go_wp2
          have HB2 := fun c => Lib.hid (show Below w.heap.size w (wr.drewN c) ∧ a.take (k + 1) = b.take (k + 1) from ⟨below_drewN HU.out.1 c, HNEXT.out⟩)
          refine ⟨?_, by simp [intOf]; omega⟩
          first | exact ⟨k + 1, by omega, by go_num, HB2 nq⟩ | ((repeat apply Exists.intro); exact ⟨⟨k + 1, by omega, by go_num, HB2 nq⟩, rfl⟩)
        · have hne : false = decide (a = b) := by
            symm
            rw [decide_eq_false_iff_not]
            rintro rfl
            exact he rfl
          have HNE := Lib.hid hne
          have HB1 := fun c => Lib.hid (below_drewN HU.out.1 c)
          clear hne
          generalize hy : a[k] = y at d0 d1 he
          generalize hz : b[k] = z at e0 e1 he
          clear hy hz
          by_cases h0 : y.1 = z.1
          · have h0' : (y.1 == z.1) = true := by simpa using h0
            have h1 : ¬ y.2 = z.2 := fun h1 => he (Prod.ext h0 h1)
            have h1' : (y.2 == z.2) = false := by simpa using h1
            clear h0 h1 he
            go_wp2_with fail
            go_quiet (fail)
            go_wp2
            go_ret
            exact ⟨ret_bool HNE.out, (HB1 _).out⟩
          · have h0' : (y.1 == z.1) = false := by simpa using h0
            clear h0 he
            go_wp2_with fail
            go_quiet (fail)
            go_wp2
            go_ret
            exact ⟨ret_bool HNE.out, (HB1 _).out⟩
      · have hkn : k = n := by omega
        subst hkn
        have heq : true = decide (a = b) := by
          symm
          rw [decide_eq_true_iff]
          have h1 := HU.out.2
          rw [List.take_of_length_le (by rw [HN.out]; exact Nat.le_refl _), List.take_of_length_le (by rw [HM.out]; exact Nat.le_refl _)] at h1
          exact h1
        have HEQ := Lib.hid heq
        clear heq
        go_wp2
        go_ret
        exact ⟨ret_bool HEQ.out, HU.out.1⟩
  · have hne : false = decide (a = b) := by
      symm
      rw [decide_eq_false_iff_not]
      rintro rfl
      exact hnm (HN.out.symm.trans HM.out)
    have HNE := Lib.hid hne
    clear hne
    go_wp2
    go_ret
    exact ⟨ret_bool HNE.out, Below.refl _ _⟩

def inR (x : Int) (r : Rg) : Bool := decide (r.1 ≤ x) && decide (x ≤ r.2)
def inL (l : List Rg) (x : Int) : Bool := l.any (inR x)
theorem inL_has (l : List Rg) (x : Int) : inL l x = true ↔ Has l x := by
  unfold inL Has
  rw [List.any_eq_true]
  simp [inR]

set_option maxRecDepth 100000 in
set_option maxHeartbeats 1000000 in
theorem refIn_any (w : World) (v : Value) (n : Nat) (l : List Rg) (x : Int) (hn : l.length = n) (hr : RdS w [] 2 v n (flatR l)) :
    Calls Tryz.prog 81 #[v, .int .i64 x] w fun e w' => e = .returned (.bool (inL l x)) ∧ w = w' := by
  obtain ⟨A, cap, rfl, _, hcap⟩ := hr.form
  have hmb : n ≤ 9223372036854775807 := by
    unfold maxLen at hcap
    omega
  obtain ⟨ans, hans⟩ : ∃ ans, inL l x = ans := ⟨_, rfl⟩
  rw [hans]
  have HR := Lib.hid hr
  have HN := Lib.hid hn
  have HANS := Lib.hid hans
  clear hr hn hans
  go_enter Tryz.func81, Tryz.ntmps81
  go_wp2
  go_loop [5] (fun i => ∃ k : Nat, k ≤ n ∧ i = .int .i64 k ∧ Hid (inL (l.take k) x = false)) (fun i => n - (intOf i).toNat)
  case atStart => exact ⟨0, Nat.zero_le _, rfl, Lib.hid rfl⟩
  case round =>
    obtain ⟨k, hk, rfl, HU⟩ := hrel
    by_cases hlt : k < n
    · have hke : k < l.length := by rw [HN.out]; exact hlt
      obtain ⟨b, off, cap2, hva, _, _, _, _, hat⟩ := HR.out.at_ (by omega)
      injection hva with hva1 _ hva3
      subst hva1
      subst hva3
      obtain ⟨f0, f1⟩ := flatR_at l k hke
      have d0 := (hat (k * 2) (by omega)).trans f0
      have d1 : w.cell? ⟨b, off + k * 2 + 1, none⟩ = _ := (hat (k * 2 + 1) (by omega)).trans f1
      clear hat f0 f1
      have hsucc : inL (l.take (k + 1)) x = inR x l[k] := by
        unfold inL at HU ⊢
        rw [List.take_succ_eq_append_getElem hke, List.any_append, HU.out]
        simp
      have hmem := List.getElem_mem hke
      generalize l[k] = r at d0 d1 hsucc hmem
      obtain ⟨a, b⟩ := r
      simp only at d0 d1
      by_cases ha : a ≤ x
      · by_cases hb : x ≤ b
        · have ht : ans = true := by
            rw [← HANS.out]
            exact List.any_eq_true.2 ⟨_, hmem, by simp [inR, ha, hb]⟩
          subst ht
          clear hsucc hmem HANS
          go_wp2
          go_ret
          exact ⟨rfl, rfl⟩
        · have HU2 := Lib.hid (show inL (l.take (k + 1)) x = false by rw [hsucc]; simp [inR, hb])
          clear hsucc hmem
          go_wp2
          go_round
          case rel => exact ⟨k + 1, by omega, by go_num, HU2⟩
          case measure => simp [intOf]; omega
      · have HU2 := Lib.hid (show inL (l.take (k + 1)) x = false by rw [hsucc]; simp [inR, ha])
        clear hsucc hmem
        go_wp2
        go_round
        case rel => exact ⟨k + 1, by omega, by go_num, HU2⟩
        case measure => simp [intOf]; omega
    · have hkn : k = n := by omega
      subst hkn
      have hf : ans = false := by
        rw [← HANS.out]
        have h1 := HU.out
        rw [List.take_of_length_le (by rw [HN.out]; exact Nat.le_refl _)] at h1
        exact h1
      subst hf
      go_wp2
      go_ret
      exact ⟨rfl, rfl⟩

shelf_lay_g SlLaysH0.n8 Slgf 8 at Tryz 61 as Tryz.containsR

theorem inPred_any (x : Int) (B : Nat) (w : World) (hB : w.cell? ⟨B, 0, none⟩ = some (.int .i64 x)) :
    PredBelow Tryz.prog 99 #[.pointer (some ⟨B, 0, none⟩)] (fun r => .agg (encR r).toArray) (inR x) w := by
  intro W r hb
  have hlt := World.block_lt_of_cell? _ _ hB
  have hc := (hb.cell (p := ⟨B, 0, none⟩) hlt).trans hB
  have hlt2 : B < W.heap.size := Nat.lt_of_lt_of_le hlt hb.size
  obtain ⟨a, b⟩ := r
  show Calls Tryz.prog 99 #[.agg #[.int .i64 a, .int .i64 b], .pointer (some ⟨B, 0, none⟩)] W _
  have hc2 : (W.alloc (.cells #[.int .i64 a, .int .i64 b] 75)).cell? ⟨B, 0, none⟩ = some (.int .i64 x) := (World.cell?_alloc_lt W _ _ hlt2).trans hc
  have HB := Lib.hid hb
  unfold inR
  clear hb hc hB
  by_cases ha : a ≤ x
  · by_cases hb : x ≤ b
    · have e : (decide (a ≤ x) && decide (x ≤ b)) = true := by simp [ha, hb]
      simp only [e]
      clear e
      go_enter Tryz.func99, Tryz.ntmps99
      go_wp2
      go_ret
      exact ⟨rfl, HB.out.alloc HB.out.size _⟩
    · have e : (decide (a ≤ x) && decide (x ≤ b)) = false := by simp [hb]
      simp only [e]
      clear e
      go_enter Tryz.func99, Tryz.ntmps99
      go_wp2
      go_ret
      exact ⟨rfl, HB.out.alloc HB.out.size _⟩
  · have e : (decide (a ≤ x) && decide (x ≤ b)) = false := by simp [ha]
    simp only [e]
    clear e
    go_enter Tryz.func99, Tryz.ntmps99
    go_wp2
    go_ret
    exact ⟨rfl, HB.out.alloc HB.out.size _⟩

theorem below_all {B : Nat} {w w' : World} (h : Below w'.heap.size w' w) (hB : B ≤ w'.heap.size) : Below B w' w := h.mono hB

end Go.Proofs.YtnfabgbidkddhaaGreatDoor

namespace Go.Proofs.YtnfabgbidkddhaaGreatDoor
open Go.Shelf Go.RowKit Go.Lib Go.Sort
attribute [local go_sem ↓] Go.wp_at_zero Go.wp_at_succ

theorem RowR.len {w : World} {g n cap : Nat} {D : List Rg} (hs : RowR w g n cap D) : D.length = n := by
  have := hs.1; rw [flatR_length] at this; omega
theorem RowR.at_ {w : World} {g n cap : Nat} {D : List Rg} (hs : RowR w g n cap D) (j : Nat) (hj : j < n) (hj2 : j < D.length) :
    w.cell? ⟨g, j * 2, none⟩ = some (.int .i64 D[j].1) ∧ w.cell? ⟨g, j * 2 + 1, none⟩ = some (.int .i64 D[j].2) ∧ w.frozen? ⟨g, j * 2 + 1, none⟩ = false := by
  obtain ⟨b, off, cap', hh, hv, _, _, _, hat⟩ := Sl.at_ hs (by omega)
  simp only [Value.slice.injEq, Option.some.injEq, Addr.mk.injEq, and_true, true_and] at hv
  obtain ⟨⟨rfl, rfl⟩, rfl⟩ := hv
  obtain ⟨a1, a2⟩ := flatR_at D j hj2
  have h0 := hat (j * 2) (by omega)
  have h1 := hat (j * 2 + 1) (by omega)
  rw [Nat.zero_add] at h0 h1
  exact ⟨h0.1.trans a1, h1.1.trans a2, h1.2⟩
theorem RowR.out {w : World} {g n cap : Nat} {D : List Rg} (hs : RowR w g n cap D) (m : Nat) (hm : m ≤ n) :
    Sl w 75 2 (.slice (some ⟨g, 0, none⟩) m n) (some g) m (flatR (D.take m)) := by
  have hl := hs.len
  refine ⟨by rw [flatR_length, List.length_take]; omega, ?_⟩
  rcases hs.2 with ⟨_, hv, _⟩ | ⟨b', off', cap', cur, hh, hv, hB, hnc, hcm, hcs, ht⟩
  · cases hv
  · simp only [Value.slice.injEq, Option.some.injEq, Addr.mk.injEq, and_true, true_and] at hv
    obtain ⟨⟨rfl, rfl⟩, rfl⟩ := hv
    refine .inr ⟨g, 0, n, cur, rfl, rfl, hB, hm, by omega, by omega, ?_⟩
    have hft : flatR (D.take m) = (flatR D).take (m * 2) := by
      have h1 : flatR D = flatR (D.take m) ++ flatR (D.drop m) := by rw [← flatR_append, List.take_append_drop]
      have h2 : (flatR (D.take m) ++ flatR (D.drop m)).take (m * 2) = flatR (D.take m) := List.take_left' (by rw [flatR_length, List.length_take]; omega)
      rw [← h1] at h2
      exact h2.symm
    rw [hft, ← ht, List.take_take, Nat.min_eq_left (by omega)]
theorem RowR.to {w : World} {g n cap : Nat} {D : List Rg} (hs : RowR w g n cap D) (j : Nat) (hj : j < D.length) (y : Int) :
    RowR (w.setCell ⟨g, j * 2 + 1, none⟩ (.int .i64 y)) g n cap (D.set j (D[j].1, y)) := by
  have h := Sl.store hs (j * 2 + 1) (.int .i64 y)
  rw [Nat.zero_add, flatR_to D j hj] at h
  exact h

theorem take_pred {α : Type} {D : List α} {m : Nat} (h0 : 0 < m) (h3 : m - 1 < D.length) : D.take m = D.take (m - 1) ++ [D[m - 1]] := by
  obtain ⟨p, rfl⟩ : ∃ p, m = p + 1 := ⟨m - 1, by omega⟩
  exact List.take_succ_eq_append_getElem h3
theorem set_last {α : Type} {D : List α} {p : Nat} (h : p ≤ D.length) (a b : α) : (D.take p ++ [a]).set p b = D.take p ++ [b] := by
  rw [List.set_append_right _ _ (by simp; omega)]
  have e : p - (D.take p).length = 0 := by rw [List.length_take]; omega
  rw [e]
  rfl

/-- What the loop keeps. -/
structure MSt (s D : List Rg) (n m k : Nat) : Prop where
  hm : m ≤ k
  hk : k ≤ n
  hn : s.length = n
  hd : D.length = n
  pre : D.take m = (s.take k).foldl mStep []
  post : D.drop k = s.drop k

theorem MSt.start {s : List Rg} {n : Nat} (hn : s.length = n) : MSt s s n 0 0 := ⟨Nat.le_refl _, Nat.zero_le _, hn, hn, by simp, rfl⟩
theorem MSt.here {s D : List Rg} {n m k : Nat} (h : MSt s D n m k) (h1 : k < D.length) (h2 : k < s.length) : D[k] = s[k] := by
  have := congrArg (·[0]?) h.post
  simp only [List.getElem?_drop, Nat.add_zero] at this
  rw [List.getElem?_eq_getElem h1, List.getElem?_eq_getElem h2] at this
  injection this
theorem MSt.fold {s D : List Rg} {n m k : Nat} (h : MSt s D n m k) (h2 : k < s.length) : (s.take (k + 1)).foldl mStep [] = mStep (D.take m) s[k] := by
  rw [List.take_succ_eq_append_getElem h2, List.foldl_append, ← h.pre]
  rfl
theorem MSt.join {s D : List Rg} {n m k : Nat} (h : MSt s D n m k) (h2 : k < s.length) (h0 : 0 < m) (h3 : m - 1 < D.length) (hc : s[k].1 - 1 ≤ D[m - 1].2) :
    MSt s (D.set (m - 1) (D[m - 1].1, max D[m - 1].2 s[k].2)) n m (k + 1) := by
  have hk : k < n := by have := h.hn; omega
  have hmk := h.hm
  refine ⟨by omega, by omega, h.hn, by simpa using h.hd, ?_, ?_⟩
  · rw [h.fold h2]
    have e := take_pred h0 h3
    unfold mStep
    rw [e]
    simp only [List.getLast?_append, List.getLast?_singleton, Option.some_or, List.dropLast_concat]
    rw [if_pos hc, List.take_set, e, set_last (by omega)]
  · have hp := congrArg (List.drop 1) h.post
    rw [List.drop_drop, List.drop_drop] at hp
    rw [List.drop_set, if_pos (by omega)]
    exact hp
theorem MSt.push {s D : List Rg} {n m k : Nat} (h : MSt s D n m k) (h2 : k < s.length) (hc : ∀ (_ : 0 < m) (h3 : m - 1 < D.length), ¬ s[k].1 - 1 ≤ D[m - 1].2) :
    MSt s (D.set m s[k]) n (m + 1) (k + 1) := by
  have hk : k < n := by have := h.hn; omega
  have hmk := h.hm
  have hd := h.hd
  refine ⟨by omega, by omega, h.hn, by simpa using h.hd, ?_, ?_⟩
  · rw [h.fold h2, List.take_set, List.take_succ_eq_append_getElem (by omega), set_last (by omega)]
    rcases Nat.eq_zero_or_pos m with h0 | h0
    · subst h0
      rfl
    · have h3 : m - 1 < D.length := by omega
      have e := take_pred h0 h3
      unfold mStep
      rw [e]
      simp only [List.getLast?_append, List.getLast?_singleton, Option.some_or]
      rw [if_neg (hc h0 h3)]
  · have hp := congrArg (List.drop 1) h.post
    rw [List.drop_drop, List.drop_drop] at hp
    rw [List.drop_set, if_pos (by omega)]
    exact hp

end Go.Proofs.YtnfabgbidkddhaaGreatDoor

namespace Go.Proofs.YtnfabgbidkddhaaGreatDoor
open Go.Shelf Go.RowKit Go.Lib Go.Sort
attribute [local go_sem ↓] Go.wp_at_zero Go.wp_at_succ

theorem wpList_append_in {W : World} {ops : Array Oper} {rest : List Oper} {o : Oper} {a : Act} {Q : Exit → Act → World → Prop} {e' : TypeId}
    (hgd : o.guard = none) (s x : Operand) (ho : o.op = .call { callee := .builtin .append, args := #[s, x], argTypes := #[55, 55] })
    {g n cap : Nat} {D : List Rg} (hs : RowR W g n cap D) (m : Nat) (hm : m < n) (hsv : a.eval s = .slice (some ⟨g, 0, none⟩) m n) (c : Nat) (hx : a.eval x = .slice (some ⟨W.heap.size, 0, none⟩) 1 c) (x1 x2 : Int)
    (hk : ∀ w', RowR w' g n cap (D.set m (x1, x2)) → Chg [g] W w' → wpList Tryz.prog ops Q rest (a.put o.dst (.slice (some ⟨g, 0, none⟩) (m + 1) n)) w') :
    wpList Tryz.prog ops Q (o :: rest) a (W.alloc (.cells #[.int .i64 x1, .int .i64 x2] e')) := by
  refine wpList_plain hgd fun K hK' => ?_
  obtain ⟨w', hr, r1, r2⟩ := run_append_in (w := W.alloc (.cells #[.int .i64 x1, .int .i64 x2] e')) (Sl.alloc hs _) m hm ⟨W.heap.size, 0, none⟩ c (x1, x2) (fun j u hj => by
    rw [Addr.add_zero_off, World.cell?_alloc_at _ _ _ _ rfl]
    simpa [encR] using hj) o.type
  unfold Oper.wp execOp
  simp only [ho, resolve, invoke, builtin, Sem.run_bind, Sem.run_pure, Result.andThen_ok, List.map_toArray, List.map_cons, List.map_nil, hsv, hx, hr]
  exact hK' _ _ (hk w' r1 ⟨r2.os, r2.tape, r2.output, Nat.le_trans (by simp) r2.size, fun k hk hn => (r2.block k (by simp; omega) hn).trans (Below.heap_alloc _ _ _ hk)⟩)

def mergeR (l : List Rg) : List Rg := mGo (sortedR l)

set_option maxRecDepth 100000 in
set_option maxHeartbeats 2000000 in
theorem merge_any (w : World) (v : Value) (h : Option Nat) (n : Nat) (l : List Rg) (hs : Sl w 75 2 v h n (flatR l)) (hn : n ≤ 1099511627776) (hb : ∀ x ∈ l, 1 ≤ x.1 ∧ x.1 ≤ 9223372036854775807) :
    Calls Tryz.prog 65 #[v] w fun e w' => ∃ v' h', e = .returned v' ∧ Sl w' 75 2 v' h' (mergeR l).length (flatR (mergeR l)) ∧ Below w.heap.size w w' := by
  have hcl := cloneSl_any w v h n l hs hn
  have hll : l.length = n := by have := hs.1; rw [flatR_length] at this; omega
  have hso := fun W v h hs => sortSl_any W v h n l hs hn
  have hmx := @run_max_int Tryz.prog
  have hlen := sortedR_length l
  have hbs : ∀ x ∈ sortedR l, 1 ≤ x.1 ∧ x.1 ≤ 9223372036854775807 := fun x hx => hb x ((sortedR_perm l).mem_iff.1 hx)
  unfold mergeR
  generalize hsl : sortedR l = s at hso hlen hbs
  have HLL := Lib.hid hll
  have HLS := Lib.hid hlen
  have HBS := Lib.hid hbs
  have HSL := Lib.hid hsl
  obtain ⟨A0, cap0, rfl, _, _⟩ := hs.form
  clear hs hb hll hlen hbs hsl
  go_enter Tryz.func65, Tryz.ntmps65
  go_wp2_with (first
    | (go_at_call 100; refine hcl.mono ?_; rintro e w1 ⟨v1, rfl, hv1, hb1⟩; clear hcl)
    | fail)
  rcases hv1 with ⟨rfl, rfl, rfl⟩ | ⟨g, cap, rfl, hs1, hg⟩
  · have hs0 := hso w1 (.slice none 0 0) none (Sl.nil _ _ _)
    have hsn : s = [] := List.eq_nil_of_length_eq_zero HLS.out
    subst hsn
    have HB1 := Lib.hid hb1
    clear hso hb1
    go_wp2_with (first
      | (go_at_call 101; refine hs0.mono ?_; rintro e w2 ⟨rfl, _, hc2⟩; have HB2 := Lib.hid (HB1.out.trans (hc2.below HB1.out.size (by simp))); clear hc2 hs0)
      | fail)
    refine wp_loop_rounds 1 ?_
    rw [rounds_succ]
    go_wp2
    go_ret
    exact ⟨_, none, rfl, Sl.nil _ _ _, HB2.out⟩
  · have hs0 := hso w1 _ _ hs1
    have hnc : n ≤ cap := by
      obtain ⟨_, _, hv, hnc, _⟩ := Sl.form hs1
      injection hv with _ _ hv
      omega
    have HB1 := Lib.hid hb1
    have HG := Lib.hid hg
    clear hso hb1 hs1 hg
    go_wp2_with (first
      | (go_at_call 101; refine hs0.mono ?_; rintro e w2 ⟨rfl, hs2, hc2⟩; have HB2 := Lib.hid (HB1.out.trans (hc2.below HB1.out.size (by simpa using HG.out))); have HR2 := Lib.hid hs2; clear hc2 hs0 hs2)
      | fail)
    go_loopw [3, 17] (fun o i wr => ∃ (k m : Nat) (D : List Rg), k ≤ n ∧ m ≤ k ∧ i = .int .i64 k ∧ o = .slice (some ⟨g, 0, none⟩) m n ∧ Hid (RowR wr g n cap D) ∧ Hid (Below w.heap.size w wr) ∧ Hid (MSt s D n m k)) (fun _ i _ => n - (intOf i).toNat)
    case atStart => exact ⟨0, 0, s, by omega, by omega, rfl, rfl, HR2, HB2, Lib.hid (MSt.start (HLS.out.trans HLL.out))⟩
    case round =>
      obtain ⟨k, m, D, hk, hm, rfl, rfl, HR, HB, HM⟩ := hrel
      by_cases hlt : k < n
      · have hkD : k < D.length := by rw [HM.out.hd]; exact hlt
        have hkS : k < s.length := by rw [HM.out.hn]; exact hlt
        obtain ⟨c0, c1, _⟩ := HR.out.at_ k hlt hkD
        have hx := HM.out.here hkD hkS
        have hbx := HBS.out s[k] (List.getElem_mem hkS)
        rw [hx] at c0 c1
        obtain ⟨y, hab⟩ : ∃ y, y = s[k] := ⟨_, rfl⟩
        rw [← hab] at c0 c1 hbx
        obtain ⟨a, b⟩ := y
        simp only at c0 c1 hbx
        obtain ⟨ha1, ha2⟩ := hbx
        have HAB : Hid (∃ hk' : k < s.length, (a, b) = s[k]'hk') := Lib.hid ⟨hkS, hab⟩
        clear hab hx hkD hkS
        go_upto_region 8 with (fail)
        go_cut [36] (fun t wx => ∃ q : Nat, t = .bool (decide (0 < m ∧ a - 1 ≤ (D[m - 1]!).2)) ∧ Hid (wx = (wr.alloc (.cells #[.int .i64 a, .int .i64 b] 75)).drewN q))
        case first =>
          by_cases hm0 : 0 < m
          · obtain ⟨p, rfl⟩ : ∃ p, m = p + 1 := ⟨m - 1, by omega⟩
            have hmD : p < D.length := by rw [HM.out.hd]; omega
            have e1 := (HR.out.at_ p (by omega) hmD).2.1
            have hbang : D[p]! = D[p] := getElem!_pos D p hmD
            obtain ⟨y, hy⟩ : ∃ y, y = D[p] := ⟨_, rfl⟩
            rw [← hy] at e1 hbang
            have HY := Lib.hid hbang
            obtain ⟨y1, y2⟩ := y
            simp only at e1
            have e2 : (wr.alloc (.cells #[.int .i64 a, .int .i64 b] 75)).cell? ⟨g, p * 2 + 1, none⟩ = some (.int .i64 y2) := (World.cell?_alloc_lt wr _ _ (World.block_lt_of_cell? _ _ e1)).trans e1
            have g1 : decide (0 < p + 1) = true := decide_eq_true hm0
            have g2 : (0 : Int) ≤ (p : Int) := by omega
            have g3 : (p : Int) < (p : Int) + 1 := by omega
            have g4 : IntKind.i64.wrap (a - 1) = a - 1 := IntWalk.i64_in _ (by omega)
            have g5 : IntKind.i64.wrap ((p : Int) + 1 - 1) = (p : Int) := by rw [show (p : Int) + 1 - 1 = p from by omega]; exact IntWalk.i64_in _ (by omega)
            have g6 : IntKind.i64.wrap (p : Int) = (p : Int) := IntWalk.i64_in _ (by omega)
            have g7 : (0 : Int) < (p : Int) + 1 := by omega
            clear hbang hy hmD
            go_quiet (fail)
            go_wp2_with fail
            go_meet
            exact ⟨_, by rw [show p + 1 - 1 = p from rfl, HY.out]; simp, Lib.hid rfl⟩
          · have g1 : decide (0 < m) = false := decide_eq_false hm0
            have hd : decide (0 < m ∧ a - 1 ≤ (D[m - 1]!).2) = false := decide_eq_false fun h => hm0 h.1
            have HD := Lib.hid hd
            clear hd
            go_quiet (fail)
            go_wp2_with fail
            go_meet
            exact ⟨_, by rw [HD.out], Lib.hid rfl⟩
        case rest =>
          obtain ⟨q, ht, HW⟩ := hcut
          have hrow : RowR wc g n cap D := by
            rw [HW.out]
            exact (Sl.alloc HR.out _).heap rfl
          have hblk : Blk wc wr.heap.size 75 #[.int .i64 a, .int .i64 b] := by
            rw [HW.out]
            exact (Blk.new wr _ _).heap rfl
          have hbel : RowKit.Below w.heap.size w wc := by
            rw [HW.out]
            exact below_drewN (HB.out.alloc HB.out.size _) q
          have hgg : w.heap.size ≤ g := HG.out
          have hgr : g < wr.heap.size := Sl.lt HR.out g rfl
          clear HR HB HW
          by_cases hj : 0 < m ∧ a - 1 ≤ (D[m - 1]!).2
          · rw [decide_eq_true hj] at ht
            subst ht
            obtain ⟨hm0, hle⟩ := hj
            obtain ⟨p, rfl⟩ : ∃ p, m = p + 1 := ⟨m - 1, by omega⟩
            have hmD : p < D.length := by rw [HM.out.hd]; omega
            obtain ⟨e0, e1, e2⟩ := hrow.at_ p (by omega) hmD
            have hbang : D[p + 1 - 1]! = D[p] := getElem!_pos D p hmD
            rw [hbang] at hle
            have c1 := hblk.cell 1
            have hmx := fun ats ty W => run_max_int (P := Tryz.prog) ats ty D[p].2 b W
            have hmm : (if D[p].2 < b then b else D[p].2) = max D[p].2 b := by omega
            rw [hmm] at hmx
            have hst : MSt s (D.set p (D[p].1, max D[p].2 b)) n (p + 1) (k + 1) := by
              obtain ⟨hkS, hab⟩ := HAB.out
              have := HM.out.join hkS (by omega) hmD (by rw [← hab]; exact hle)
              rw [← hab] at this
              exact this
            have HST := Lib.hid hst
            have hrn := hrow.to p hmD (max D[p].2 b)
            have hbn := hbel.setCell (p := ⟨g, p * 2 + 1, none⟩) hgg (.int .i64 (max D[p].2 b))
            rw [← hmm] at hrn hbn
            rw [hmm] at hrn
            have HRN : Hid (RowR (wc.setCell ⟨g, p * 2 + 1, none⟩ (.int .i64 (if D[p].2 < b then b else D[p].2))).drew g n cap (D.set p (D[p].1, max D[p].2 b))) := Lib.hid (Sl.heap (by rw [hmm]; exact hrow.to p hmD (max D[p].2 b)) rfl)
            have HBN := Lib.hid hbn.drew
            clear hrn hbn hmx
            have g2 : (0 : Int) ≤ (p : Int) := by omega
            have g3 : (p : Int) < (p : Int) + 1 := by omega
            have g5 : IntKind.i64.wrap ((p : Int) + 1 - 1) = (p : Int) := by rw [show (p : Int) + 1 - 1 = p from by omega]; exact IntWalk.i64_in _ (by omega)
            have g6 : IntKind.i64.wrap (p : Int) = (p : Int) := IntWalk.i64_in _ (by omega)
            clear hmm
            generalize D[p].2 = y2 at *
            generalize D[p].1 = y1 at *
            clear hrow hst hle hbang hmD hbel
            go_wp2_with fail
            go_still_tail 14, (by kernel_rfl)
            change wpList _ _ _ _ _ wc.drew
            go_wp2
            refine ⟨?_, by simp [intOf]; omega⟩
            first | exact ⟨k + 1, p + 1, _, by omega, by omega, by go_num, rfl, HRN, HBN, HST⟩ | ((repeat apply Exists.intro); exact ⟨⟨k + 1, p + 1, _, by omega, by omega, by go_num, rfl, HRN, HBN, HST⟩, rfl⟩)
          · rw [decide_eq_false hj] at ht
            subst ht
            have c0 := hblk.cell 0
            have c1 := hblk.cell 1
            have HAL := Lib.hid hrow
            have hst : MSt s (D.set m (a, b)) n (m + 1) (k + 1) := by
              obtain ⟨hkS, hab⟩ := HAB.out
              have := HM.out.push hkS (fun h0 h3 hc => hj ⟨h0, by rw [getElem!_pos D (m - 1) h3]; rw [← hab] at hc; exact hc⟩)
              rw [← hab] at this
              exact this
            have HST := Lib.hid hst
            have HBL := Lib.hid hbel
            clear hst hj hrow hbel hmx
            go_wp2_with (at_builtin; refine wpList_append_in rfl _ _ rfl HAL.out m (by omega) rfl 1 rfl a b ?_)
            intro w' r1 r2
            have HRN := Lib.hid r1
            have HBN := Lib.hid (HBL.out.trans (r2.below HBL.out.size (by simpa using hgg)))
            clear r1 r2
            go_wp2
            refine ⟨?_, by simp [intOf]; omega⟩
            first | exact ⟨k + 1, m + 1, _, by omega, by omega, by go_num, rfl, HRN, HBN, HST⟩ | ((repeat apply Exists.intro); exact ⟨⟨k + 1, m + 1, _, by omega, by omega, by go_num, rfl, HRN, HBN, HST⟩, rfl⟩)
      · have hkn : k = n := by omega
        subst hkn
        have hfin : D.take m = mGo s := by
          have h1 := HM.out.pre
          have h2 : s.take k = s := List.take_of_length_le (by rw [HM.out.hn]; exact Nat.le_refl _)
          rw [h2] at h1
          exact h1
        have ho := HR.out.out m hm
        rw [hfin] at ho
        have hl : (mGo s).length = m := by rw [← hfin, List.length_take, HM.out.hd]; omega
        have HO := Lib.hid ho
        have HL := Lib.hid hl
        clear ho hl hfin
        go_wp2
        go_ret
        exact ⟨_, _, rfl, by rw [HL.out]; exact HO.out, HB.out⟩

end Go.Proofs.YtnfabgbidkddhaaGreatDoor

namespace Go.Proofs.YtnfabgbidkddhaaGreatDoor
open Go.Lib

/-- The pieces of a text between the instances of a byte. -/
def piecesC (c : UInt8) : List UInt8 → List (List UInt8)
  | [] => [[]]
  | b :: r => if b = c then [] :: piecesC c r else match piecesC c r with
    | [] => [[b]]
    | p :: ps => (b :: p) :: ps

theorem piecesC_ne (c : UInt8) : ∀ l, piecesC c l ≠ []
  | [] => by simp [piecesC]
  | b :: r => by
    unfold piecesC
    split
    · simp
    · split <;> simp

theorem index_one_cons (b c : UInt8) (l : List UInt8) : index (b :: l) [c] = if b = c then 0 else if index l [c] = -1 then -1 else index l [c] + 1 := by
  show (if List.isPrefixOf [c] (b :: l) then 0 else if index l [c] == -1 then -1 else index l [c] + 1) = _
  by_cases h : b = c
  · subst h
    simp
  · rw [if_neg h, if_neg (by simp; exact fun e => h e.symm)]
    simp

theorem splitK_pieces (c : UInt8) : ∀ s : List UInt8, splitK [c] 0 (count s [c]) s = piecesC c s
  | [] => by
    rw [count_one]
    rfl
  | b :: r => by
    have ih := splitK_pieces c r
    unfold piecesC
    by_cases h : b = c
    · subst h
      rw [if_pos rfl, count_cons_eq, Nat.add_comm]
      unfold splitK
      have e : index (b :: r) [b] = 0 := by rw [index_one_cons, if_pos rfl]
      rw [e]
      simp only [show ((0 : Int) == -1) = false from rfl, Bool.false_eq_true, if_false]
      rw [show (0 : Int).toNat + [b].length = 1 from rfl, List.drop_one, List.tail_cons, ih]
      rfl
    · rw [if_neg h, count_cons_ne b c r h]
      cases hk : count r [c] with
      | zero =>
        rw [hk] at ih
        rw [← ih]
        rfl
      | succ k =>
        rw [hk] at ih
        have hm : index r [c] ≠ -1 := fun e => by have := count_miss e; omega
        obtain ⟨i, hi⟩ : ∃ i : Nat, index r [c] = i := ⟨(index r [c]).toNat, by
          have := index_ge r [c]
          omega⟩
        have e : index (b :: r) [c] = ((i + 1 : Nat) : Int) := by rw [index_one_cons, if_neg h, if_neg hm, hi]; omega
        unfold splitK at ih ⊢
        rw [e, hi] at *
        have f1 : (((i : Nat) : Int) == -1) = false := by rw [beq_eq_false_iff_ne]; omega
        have f2 : (((i + 1 : Nat) : Int) == -1) = false := by rw [beq_eq_false_iff_ne]; omega
        simp only [f1, f2, Bool.false_eq_true, if_false, Int.toNat_natCast, List.length_singleton, Nat.add_zero] at ih ⊢
        rw [← ih]
        simp

/-- A run without the byte ahead of the rest. -/
theorem piecesC_run (c : UInt8) (p l : List UInt8) (h : ∀ b ∈ p, b ≠ c) : piecesC c (p ++ l) = match piecesC c l with
    | [] => [p]
    | q :: ps => (p ++ q) :: ps := by
  induction p with
  | nil => cases hq : piecesC c l with
    | nil => exact absurd hq (piecesC_ne c l)
    | cons q ps => simp [hq]
  | cons b p ih =>
    have ih := ih fun x hx => h x (List.mem_cons_of_mem _ hx)
    rw [List.cons_append]
    show piecesC c (b :: (p ++ l)) = _
    rw [piecesC, if_neg (h b List.mem_cons_self), ih]
    cases hq : piecesC c l with
    | nil => exact absurd hq (piecesC_ne c l)
    | cons q ps => rfl
theorem piecesC_end (c : UInt8) (p : List UInt8) (h : ∀ b ∈ p, b ≠ c) : piecesC c p = [p] := by
  have := piecesC_run c p [] h
  rw [List.append_nil] at this
  rw [this]
  simp [piecesC]
theorem piecesC_cut (c : UInt8) (p l : List UInt8) (h : ∀ b ∈ p, b ≠ c) : piecesC c (p ++ c :: l) = p :: piecesC c l := by
  rw [piecesC_run c p (c :: l) h]
  have : piecesC c (c :: l) = [] :: piecesC c l := by rw [piecesC, if_pos rfl]
  rw [this]
  simp

theorem piecesC_size (c : UInt8) : ∀ l, ∀ p ∈ piecesC c l, p.length ≤ l.length
  | [], p, h => by simp [piecesC] at h; simp [h]
  | b :: r, p, h => by
    have ih := piecesC_size c r
    unfold piecesC at h
    split at h
    · rcases List.mem_cons.1 h with rfl | h
      · simp
      · have := ih p h
        simp; omega
    · split at h
      · simp at h; simp [h]
      · rename_i q ps hq
        rcases List.mem_cons.1 h with rfl | h
        · have := ih q (by rw [hq]; exact List.mem_cons_self)
          simp; omega
        · have := ih p (by rw [hq]; exact List.mem_cons_of_mem _ h)
          simp; omega
theorem piecesC_count (c : UInt8) : ∀ l, (piecesC c l).length ≤ l.length + 1
  | [] => by simp [piecesC]
  | b :: r => by
    have ih := piecesC_count c r
    unfold piecesC
    split
    · simp; omega
    · split
      · simp
      · rename_i q ps hq
        rw [hq] at ih
        simp at ih ⊢; omega

/-- What the library's split makes. -/
theorem splitB_pieces (c : UInt8) (s : ByteArray) : (splitB ⟨#[c]⟩ 0 (countB s ⟨#[c]⟩) s).map (·.data.toList) = piecesC c s.data.toList := by
  rw [splitB_data, ← splitK_pieces]

end Go.Proofs.YtnfabgbidkddhaaGreatDoor

namespace Go.Proofs.YtnfabgbidkddhaaGreatDoor
open Go.RowKit

/-- A range, from the first number on. -/
def clipR (r : Rg) : Rg := (if r.1 < 1 then 1 else r.1, r.2)
def readGo (star : Int) : List (List UInt8) → List Rg → Option (List Rg)
  | [], acc => some acc
  | p :: ps, acc => if (partL p star).2 then readGo star ps (if (clipR (partL p star).1).1 ≤ (clipR (partL p star).1).2 then acc ++ [clipR (partL p star).1] else acc) else none
def readL (l : List UInt8) (star : Int) : List Rg × Int :=
  if 1000 < l.length then ([], 2) else match readGo star (piecesC 44 l) [] with
    | none => ([], 3)
    | some a => (mergeR a, 0)

end Go.Proofs.YtnfabgbidkddhaaGreatDoor

namespace Go.Proofs.YtnfabgbidkddhaaGreatDoor
open Go.RowKit

def digL (l : List UInt8) : Int × Bool := if l = [] then (0, false) else match numGo l 0 with
  | none => (0, false)
  | some n => (n, true)
def monthNames : List (List UInt8) := [[106, 97, 110], [102, 101, 98], [109, 97, 114], [97, 112, 114], [109, 97, 121], [106, 117, 110], [106, 117, 108], [97, 117, 103], [115, 101, 112], [111, 99, 116], [110, 111, 118], [100, 101, 99]]
/-- A month by its name; nought: none. -/
def monthL (l : List UInt8) : Int := match monthNames.findIdx? (fun m => m == lowL l) with
  | none => 0
  | some k => (k : Int) + 1
/-- How many days a date is behind the first one of 1970. -/
def daysP (y m d : Int) : Int :=
  let y1 := if m ≤ 2 then y - 1 else y
  let era := (y1 + 400) / 400
  let yy := y1 + 400 - era * 400
  let mm := (m + 9) % 12
  (era - 1) * 146097 + yy * 365 + yy / 4 - yy / 100 + (153 * mm + 2) / 5 + d - 1 - 719468
def longP (y m : Int) : Int := if m = 12 then 31 else daysP y (m + 1) 1 - daysP y m 1
def dateL (a b c : List UInt8) : Option Int :=
  if (digL a).2 = true ∧ (digL c).2 = true ∧ c.length = 4 ∧ monthL b ≠ 0 ∧ 1 ≤ (digL a).1 ∧ (digL a).1 ≤ longP (digL c).1 (monthL b) then some (daysP (digL c).1 (monthL b) (digL a).1) else none
def dayOf (o : Option Int) : Int × Int := match o with
  | none => (0, 3)
  | some d => if d < 0 then (0, 3) else (d * 86400, 0)
def day3 : List (List UInt8) → Int × Int
  | [a, b, c] => if 2 < a.length then (0, 3) else dayOf (dateL a b c)
  | _ => (0, 3)
def dayL (l : List UInt8) : Int × Int := day3 (piecesC 45 l)

end Go.Proofs.YtnfabgbidkddhaaGreatDoor
