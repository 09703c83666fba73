/-
  The walks of date's month, date, ReadDay: the day that a text tells; nothing that was there turns.
-/
import Derived.Test.YtnfabgbidkddhaaGreatDoorDayWM
import Derived.Test.YtnfabgbidkddhaaGreatDoorSeqPartM
import Derived.Deep.RegionWith
import Derived.Deep.RegionHeld3
import Derived.Deep.DrawnRows
namespace Go.Proofs.YtnfabgbidkddhaaGreatDoor
open Go.RowKit

theorem belowD {w w1 w2 : World} (h : Below w.heap.size w w1) (h2 : Below w1.heap.size w1 w2) : Below w.heap.size w w2 := h.trans (h2.mono h.size)
theorem belowDD {w w2 : World} (h2 : Below w.drew.heap.size w.drew w2) : Below w.heap.size w w2 := ⟨h2.os, h2.tape, h2.output, h2.size, h2.block⟩

theorem monthL_hit (l : List UInt8) (k : Nat) (hk : k < 12) (h : ∀ j, j < k → monthNames[j]? ≠ some (lowL l)) (he : monthNames[k]? = some (lowL l)) : monthL l = (k : Int) + 1 := by
  have hf : monthNames.findIdx? (fun m => m == lowL l) = some k := by
    rw [List.findIdx?_eq_some_iff_getElem]
    refine ⟨by simpa [monthNames] using hk, ?_, fun j hj => ?_⟩
    · have := List.getElem?_eq_some_iff.1 he
      obtain ⟨h1, h2⟩ := this
      rw [h2]
      simp
    · have h1 := h j hj
      rw [List.getElem?_eq_getElem (by simp [monthNames]; omega)] at h1
      simp only [Option.some.injEq, ne_eq] at h1
      simpa using h1
  unfold monthL
  rw [hf]
theorem monthL_miss (l : List UInt8) (h : ∀ j, j < 12 → monthNames[j]? ≠ some (lowL l)) : monthL l = 0 := by
  have hf : monthNames.findIdx? (fun m => m == lowL l) = none := by
    rw [List.findIdx?_eq_none_iff]
    intro x hx
    obtain ⟨j, hj, rfl⟩ := List.getElem_of_mem hx
    have h1 := h j (by simpa [monthNames] using hj)
    rw [List.getElem?_eq_getElem hj] at h1
    simp only [Option.some.injEq, ne_eq] at h1
    simpa using h1
  unfold monthL
  rw [hf]
def yearText : ByteArray := ⟨#[74, 97, 110, 70, 101, 98, 77, 97, 114, 65, 112, 114, 77, 97, 121, 74, 117, 110, 74, 117, 108, 65, 117, 103, 83, 101, 112, 79, 99, 116, 78, 111, 118, 68, 101, 99]⟩
theorem year_month (k : Nat) (hk : k < 12) : monthNames[k]? = some (lowL (yearText.extract (3 * k) (3 * k + 3)).data.toList) ∧ (yearText.extract (3 * k) (3 * k + 3)).size = 3 := by
  have : ∀ k, k < 12 → monthNames[k]? = some (lowL (yearText.extract (3 * k) (3 * k + 3)).data.toList) ∧ (yearText.extract (3 * k) (3 * k + 3)).size = 3 := by decide +kernel
  exact this k hk

set_option maxRecDepth 100000 in
set_option maxHeartbeats 2000000 in
theorem month_anyD (s : ByteArray) (w : World) (hs : s.size ≤ 140737488351232) :
    Calls Tryz.prog 182 #[.string s] w fun e w' => e = .returned (.int .i64 (monthL s.data.toList)) ∧ Below w.heap.size w w' := by
  obtain ⟨r, hr⟩ : ∃ r, monthL s.data.toList = r := ⟨_, rfl⟩
  rw [hr]
  have hf := fun W => fold_any s W hs
  have ht : (lowS s).toList = lowL s.data.toList := by rw [ByteArray.toList_eq]; rfl
  have HR := Lib.hid hr
  have HT := Lib.hid ht
  generalize lowS s = fs at hf HT
  clear hr ht hs
  go_enter Tryz.func182, Tryz.ntmps182
  go_wp2_with fail
  go_loopw [3] (fun i wr => ∃ k : Nat, k ≤ 12 ∧ i = .int .i64 ((k : Int) + 1) ∧ Hid (∀ j, j < k → monthNames[j]? ≠ some (lowL s.data.toList)) ∧ Hid (Below w.heap.size w wr)) (fun i _ => 13 - (intOf i).toNat)
  case atStart => exact ⟨0, by omega, rfl, Lib.hid (fun j hj => by omega), Lib.hid (Below.refl _ _)⟩
  case round =>
    obtain ⟨k, hk, rfl, HU, HB⟩ := hrel
    by_cases hlt : k < 12
    · obtain ⟨hn1, hn2⟩ := year_month k hlt
      obtain ⟨a, ha⟩ : ∃ a, 3 * k = a := ⟨_, rfl⟩
      obtain ⟨c, hc⟩ : ∃ c, 3 * k + 3 = c := ⟨_, rfl⟩
      rw [ha, ← ha, hc, ha] at hn1 hn2
      have e1 : IntKind.i64.wrap ((c : Int) - 3) = (a : Int) := by rw [IntWalk.i64_in _ (by omega)]; omega
      have e2 : IntKind.i64.wrap (3 * ((k : Int) + 1)) = (c : Int) := by rw [IntWalk.i64_in _ (by omega)]; omega
      have b1 : (0 : Int) ≤ (c : Int) := by omega
      have b2 : (c : Int) ≤ 36 := by omega
      have b3 : (0 : Int) ≤ (a : Int) := by omega
      have b4 : (a : Int) ≤ (c : Int) := by omega
      have ec : c ≤ 36 := by omega
      have eac : a ≤ c := by omega
      have hyt : (⟨#[74, 97, 110, 70, 101, 98, 77, 97, 114, 65, 112, 114, 77, 97, 121, 74, 117, 110, 74, 117, 108, 65, 117, 103, 83, 101, 112, 79, 99, 116, 78, 111, 118, 68, 101, 99]⟩ : ByteArray).extract a c = yearText.extract a c := rfl
      generalize yearText.extract a c = nm at hn1 hn2 hyt
      have hf2 := fun W => fold_any nm W (by omega)
      have ht2 : (lowS nm).toList = lowL nm.data.toList := by rw [ByteArray.toList_eq]; rfl
      rw [← ht2] at hn1
      generalize lowS nm = fn at hf2 hn1
      have hmn : k ≤ 11 := by omega
      clear ha hc ht2 hn2
      by_cases he : fs.toList = fn.toList
      · have hcmp : (fs.toList == fn.toList) = true := by simpa using he
        have hm := monthL_hit s.data.toList k hlt HU.out (by rw [hn1, ← he, HT.out])
        rw [HR.out] at hm
        subst hm
        have HB0 := HB
        clear hn1 he HU
        go_wp2_with fail
        go_region_with (first
          | (go_at_call 40; with_reducible refine (hf _).mono ?_; rintro e w2 ⟨rfl, hb2⟩; have HB2 := Lib.hid hb2; clear hb2)
          | (go_at_call 40; with_reducible refine (hf2 _).mono ?_; rintro e w3 ⟨rfl, hb3⟩; have HB3 := Lib.hid hb3; clear hb3)
          | fail)
        all_goals
          have HB4 := Lib.hid (belowD (belowD HB0.out (belowDD HB2.out)) HB3.out)
          go_wp2
          go_ret
          exact ⟨rfl, HB4.out⟩
      · have hcmp : (fs.toList == fn.toList) = false := by simpa using he
        have HU2 : Hid (∀ j, j < k + 1 → monthNames[j]? ≠ some (lowL s.data.toList)) := Lib.hid (by
          intro j hj
          by_cases hjk : j = k
          · subst hjk
            rw [hn1, ← HT.out]
            intro h
            injection h with h
            exact he h.symm
          · exact HU.out j (by omega))
        have HB0 := HB
        clear hn1 he HU
        go_wp2_with fail
        go_region_with (first
          | (go_at_call 40; with_reducible refine (hf _).mono ?_; rintro e w2 ⟨rfl, hb2⟩; have HB2 := Lib.hid hb2; clear hb2)
          | (go_at_call 40; with_reducible refine (hf2 _).mono ?_; rintro e w3 ⟨rfl, hb3⟩; have HB3 := Lib.hid hb3; clear hb3)
          | fail)
        all_goals
          have HB4 := Lib.hid (belowD (belowD HB0.out (belowDD HB2.out)) HB3.out)
          go_wp2
          refine ⟨?_, by simp [intOf]; omega⟩
          first | exact ⟨k + 1, by omega, by go_num, HU2, HB4⟩ | ((repeat apply Exists.intro); exact ⟨⟨k + 1, by omega, by go_num, HU2, HB4⟩, rfl⟩)
    · have hk12 : k = 12 := by omega
      subst hk12
      have hm := monthL_miss s.data.toList HU.out
      rw [HR.out] at hm
      subst hm
      go_wp2
      go_ret
      exact ⟨rfl, HB.out⟩

theorem monthL_rng (l : List UInt8) : 0 ≤ monthL l ∧ monthL l ≤ 12 := by
  unfold monthL
  split
  · omega
  · rename_i k hk
    have h1 := List.findIdx?_eq_some_iff_getElem.1 hk
    obtain ⟨h2, _⟩ := h1
    have h3 : monthNames.length = 12 := rfl
    omega
theorem numGo_bound : ∀ (l : List UInt8) (n m : Int) (k : Nat), 0 ≤ n → n < 10 ^ k → numGo l n = some m → 0 ≤ m ∧ m < 10 ^ (k + l.length)
  | [], n, m, k, h0, h1, h => by
    injection h with h
    subst h
    exact ⟨h0, by simpa using h1⟩
  | c :: r, n, m, k, h0, h1, h => by
    unfold numGo at h
    split at h
    · cases h
    · rename_i hc
      have h2 := pow10_step h0 h1 (show 0 ≤ (c.toNat : Int) - 48 by omega) (show (c.toNat : Int) - 48 ≤ 9 by omega)
      have h3 := numGo_bound r _ m (k + 1) (by omega) h2 h
      rw [List.length_cons, show k + (r.length + 1) = k + 1 + r.length from by omega]
      exact h3
theorem digL_rng (l : List UInt8) : 0 ≤ (digL l).1 ∧ (digL l).1 < 10 ^ l.length := by
  unfold digL
  have hp : (0 : Int) < 10 ^ l.length := by exact_mod_cast Nat.pos_of_ne_zero (by simp)
  split
  · exact ⟨Int.le_refl _, by simpa using hp⟩
  · split
    · exact ⟨Int.le_refl _, by simpa using hp⟩
    · rename_i n hn
      have := numGo_bound l 0 n 0 (Int.le_refl _) (by decide) hn
      simpa using this

/-- What date hands back. -/
def dateR (a b c : List UInt8) : Int × Bool := match dateL a b c with
  | none => (0, false)
  | some d => (d, true)
theorem dateR_none {a b c : List UInt8} (h : ¬ ((digL a).2 = true ∧ (digL c).2 = true ∧ c.length = 4 ∧ monthL b ≠ 0 ∧ 1 ≤ (digL a).1 ∧ (digL a).1 ≤ longP (digL c).1 (monthL b))) : dateR a b c = (0, false) := by
  unfold dateR dateL
  rw [if_neg h]

set_option maxRecDepth 100000 in
set_option maxHeartbeats 4000000 in
theorem date_anyD (a b c : ByteArray) (w : World) (ha : a.size ≤ 2) (hb : b.size ≤ 140737488351232) (hc : c.size ≤ 140737488351232) :
    Calls Tryz.prog 166 #[.string a, .string b, .string c] w fun e w' => e = .returned (.tuple #[.int .i64 (dateR a.data.toList b.data.toList c.data.toList).1, .bool (dateR a.data.toList b.data.toList c.data.toList).2]) ∧ Below w.heap.size w w' := by
  have hna := fun W => number_anyD a W (by omega)
  have hda := digL_rng a.data.toList
  have hma := fun W => month_anyD b W hb
  have hrm := monthL_rng b.data.toList
  have hnone := @dateR_none a.data.toList b.data.toList c.data.toList
  have hsome : (digL a.data.toList).2 = true → (digL c.data.toList).2 = true → c.data.toList.length = 4 → monthL b.data.toList ≠ 0 → 1 ≤ (digL a.data.toList).1 → (digL a.data.toList).1 ≤ longP (digL c.data.toList).1 (monthL b.data.toList) → dateR a.data.toList b.data.toList c.data.toList = (daysP (digL c.data.toList).1 (monthL b.data.toList) (digL a.data.toList).1, true) := by
    intro h1 h2 h3 h4 h5 h6
    unfold dateR dateL
    rw [if_pos ⟨h1, h2, h3, h4, h5, h6⟩]
  have hd99 : (digL a.data.toList).1 ≤ 99 := by
    have h2 : ∀ j : Nat, j ≤ 2 → (10 : Int) ^ j ≤ 100 := by decide
    have := h2 a.data.toList.length (by rw [lenB]; omega)
    omega
  rw [lenB c] at hnone hsome
  by_cases hc15 : c.size ≤ 15
  · have hnc := fun W => number_anyD c W hc15
    have hdc := digL_rng c.data.toList
    rw [lenB] at hdc
    generalize dateR a.data.toList b.data.toList c.data.toList = rr at hnone hsome
    generalize digL a.data.toList = da at hna hda hnone hsome hd99
    generalize digL c.data.toList = dc at hnc hdc hnone hsome
    generalize monthL b.data.toList = m at hma hrm hnone hsome
    obtain ⟨dn, dok⟩ := da
    obtain ⟨yn, yok⟩ := dc
    simp only at hna hda hnone hsome hd99 hnc hdc
    obtain ⟨hda1, _⟩ := hda
    obtain ⟨hdc1, hdc2⟩ := hdc
    obtain ⟨hm1, hm2⟩ := hrm
    by_cases hgood : dok = true ∧ yok = true ∧ c.size = 4 ∧ m ≠ 0 ∧ 1 ≤ dn
    · obtain ⟨rfl, rfl, hc4, hm0, hd1⟩ := hgood
      have hmb : (m == 0) = false := by simpa using hm0
      have hyn : yn ≤ 9999 := by
        rw [hc4] at hdc2
        have : (10 : Int) ^ 4 = 10000 := by decide
        omega
      have hlo := fun W => long_anyD yn m W ⟨hdc1, hyn⟩ ⟨by omega, hm2⟩
      have hdy := fun W => days_anyD yn m dn W ⟨hdc1, hyn⟩ ⟨by omega, hm2⟩ ⟨hd1, hd99⟩
      by_cases hlg : dn ≤ longP yn m
      · have hr := hsome rfl rfl hc4 hm0 hd1 hlg
        rw [hr]
        generalize longP yn m = lg at hlo hlg
        generalize daysP yn m dn = dd at hdy
        clear hnone hsome hr hdc2
        go_enter Tryz.func166, Tryz.ntmps166
        go_wp2_with (first
          | (go_at_call 181; with_reducible refine (hna _).mono ?_; rintro e w2 ⟨rfl, rfl⟩)
          | (go_at_call 181; with_reducible refine (hnc _).mono ?_; rintro e w2 ⟨rfl, rfl⟩)
          | (go_at_call 182; with_reducible refine (hma _).mono ?_; rintro e w3 ⟨rfl, hb3⟩; have HB3 := Lib.hid hb3; clear hb3)
          | (go_at_call 183; with_reducible refine (hlo _).mono ?_; rintro e w4 ⟨rfl, rfl⟩)
          | (go_at_call 184; with_reducible refine (hdy _).mono ?_; rintro e w4 ⟨rfl, rfl⟩)
          | fail)
        go_ret2
        exact ⟨rfl, HB3.out⟩
      · have hr := hnone (fun h => hlg h.2.2.2.2.2)
        rw [hr]
        generalize longP yn m = lg at hlo hlg
        clear hnone hsome hr hdc2
        go_enter Tryz.func166, Tryz.ntmps166
        go_wp2_with (first
          | (go_at_call 181; with_reducible refine (hna _).mono ?_; rintro e w2 ⟨rfl, rfl⟩)
          | (go_at_call 181; with_reducible refine (hnc _).mono ?_; rintro e w2 ⟨rfl, rfl⟩)
          | (go_at_call 182; with_reducible refine (hma _).mono ?_; rintro e w3 ⟨rfl, hb3⟩; have HB3 := Lib.hid hb3; clear hb3)
          | (go_at_call 183; with_reducible refine (hlo _).mono ?_; rintro e w4 ⟨rfl, rfl⟩)
          | fail)
        go_ret2
        exact ⟨rfl, HB3.out⟩
    · have hr := hnone (fun h => hgood ⟨h.1, h.2.1, h.2.2.1, h.2.2.2.1, h.2.2.2.2.1⟩)
      rw [hr]
      clear hnone hsome hr hdc2
      have walk : (dok = false ∨ yok = false ∨ c.size ≠ 4 ∨ m = 0 ∨ dn < 1) := by
        by_cases h1 : dok = true
        · by_cases h2 : yok = true
          · by_cases h3 : c.size = 4
            · by_cases h4 : m = 0
              · exact .inr (.inr (.inr (.inl h4)))
              · exact .inr (.inr (.inr (.inr (by
                  by_cases h5 : 1 ≤ dn
                  · exact absurd ⟨h1, h2, h3, h4, h5⟩ hgood
                  · omega))))
            · exact .inr (.inr (.inl h3))
          · exact .inr (.inl (by simpa using h2))
        · exact .inl (by simpa using h1)
      clear hgood
      cases dok with
      | false =>
        clear walk
        go_enter Tryz.func166, Tryz.ntmps166
        go_wp2_with (first
          | (go_at_call 181; with_reducible refine (hna _).mono ?_; rintro e w2 ⟨rfl, rfl⟩)
          | (go_at_call 181; with_reducible refine (hnc _).mono ?_; rintro e w2 ⟨rfl, rfl⟩)
          | (go_at_call 182; with_reducible refine (hma _).mono ?_; rintro e w3 ⟨rfl, hb3⟩; have HB3 := Lib.hid hb3; clear hb3)
          | fail)
        go_ret2
        exact ⟨rfl, HB3.out⟩
      | true =>
        cases yok with
        | false =>
          clear walk
          go_enter Tryz.func166, Tryz.ntmps166
          go_wp2_with (first
            | (go_at_call 181; with_reducible refine (hna _).mono ?_; rintro e w2 ⟨rfl, rfl⟩)
            | (go_at_call 181; with_reducible refine (hnc _).mono ?_; rintro e w2 ⟨rfl, rfl⟩)
            | (go_at_call 182; with_reducible refine (hma _).mono ?_; rintro e w3 ⟨rfl, hb3⟩; have HB3 := Lib.hid hb3; clear hb3)
            | fail)
          go_ret2
          exact ⟨rfl, HB3.out⟩
        | true =>
          by_cases hc4 : c.size = 4
          · by_cases hm0 : m = 0
            · subst hm0
              clear walk
              go_enter Tryz.func166, Tryz.ntmps166
              go_wp2_with (first
                | (go_at_call 181; with_reducible refine (hna _).mono ?_; rintro e w2 ⟨rfl, rfl⟩)
                | (go_at_call 181; with_reducible refine (hnc _).mono ?_; rintro e w2 ⟨rfl, rfl⟩)
                | (go_at_call 182; with_reducible refine (hma _).mono ?_; rintro e w3 ⟨rfl, hb3⟩; have HB3 := Lib.hid hb3; clear hb3)
                | fail)
              go_ret2
              exact ⟨rfl, HB3.out⟩
            · have hd1 : dn < 1 := by
                rcases walk with h | h | h | h | h
                · cases h
                · cases h
                · exact absurd hc4 h
                · exact absurd h hm0
                · exact h
              have hmb : (m == 0) = false := by simpa using hm0
              clear walk
              go_enter Tryz.func166, Tryz.ntmps166
              go_wp2_with (first
                | (go_at_call 181; with_reducible refine (hna _).mono ?_; rintro e w2 ⟨rfl, rfl⟩)
                | (go_at_call 181; with_reducible refine (hnc _).mono ?_; rintro e w2 ⟨rfl, rfl⟩)
                | (go_at_call 182; with_reducible refine (hma _).mono ?_; rintro e w3 ⟨rfl, hb3⟩; have HB3 := Lib.hid hb3; clear hb3)
                | fail)
              go_ret2
              exact ⟨rfl, HB3.out⟩
          · clear walk
            go_enter Tryz.func166, Tryz.ntmps166
            go_wp2_with (first
              | (go_at_call 181; with_reducible refine (hna _).mono ?_; rintro e w2 ⟨rfl, rfl⟩)
              | (go_at_call 181; with_reducible refine (hnc _).mono ?_; rintro e w2 ⟨rfl, rfl⟩)
              | (go_at_call 182; with_reducible refine (hma _).mono ?_; rintro e w3 ⟨rfl, hb3⟩; have HB3 := Lib.hid hb3; clear hb3)
              | fail)
            go_ret2
            exact ⟨rfl, HB3.out⟩
  · have hnc := fun W => number_longD c W hc
    have hr := hnone (fun h => by omega)
    rw [hr]
    generalize digL a.data.toList = da at hna
    generalize monthL b.data.toList = m at hma
    obtain ⟨dn, dok⟩ := da
    have hc4 : ¬ c.size = 4 := by omega
    clear hnone hsome hr hda hd99 hrm hc15
    cases dok with
    | false =>
      go_enter Tryz.func166, Tryz.ntmps166
      go_wp2_with (first
        | (go_at_call 181; with_reducible refine (hna _).mono ?_; rintro e w2 ⟨rfl, rfl⟩)
        | (go_at_call 181; refine (hnc _).mono ?_; rintro e w2 ⟨⟨yn, yok, rfl⟩, rfl⟩)
        | (go_at_call 182; with_reducible refine (hma _).mono ?_; rintro e w3 ⟨rfl, hb3⟩; have HB3 := Lib.hid hb3; clear hb3)
        | fail)
      go_ret2
      exact ⟨rfl, HB3.out⟩
    | true =>
      go_enter Tryz.func166, Tryz.ntmps166
      go_wp2_with (first
        | (go_at_call 181; with_reducible refine (hna _).mono ?_; rintro e w2 ⟨rfl, rfl⟩)
        | (go_at_call 181; refine (hnc _).mono ?_; rintro e w2 ⟨⟨yn, yok, rfl⟩, rfl⟩; cases yok)
        | (go_at_call 182; with_reducible refine (hma _).mono ?_; rintro e w3 ⟨rfl, hb3⟩; have HB3 := Lib.hid hb3; clear hb3)
        | fail)
      all_goals
        go_ret2
        exact ⟨rfl, HB3.out⟩

end Go.Proofs.YtnfabgbidkddhaaGreatDoor
