/-
  The walks of crit's number, day.
-/
import Derived.Test.YtnfabgbidkddhaaGreatDoorCritWordM
import Derived.Test.YtnfabgbidkddhaaGreatDoorDayW3M
namespace Go.Proofs.YtnfabgbidkddhaaGreatDoor
open Go.RowKit
attribute [local go_sem ↓] Go.wp_at_zero Go.wp_at_succ

theorem dayL_rng (l : List UInt8) : -1000000000000 ≤ (dayL l).1 ∧ (dayL l).1 ≤ 1000000000000 := by
  unfold dayL day3
  split
  · rename_i a b c _
    by_cases ha : 2 < a.length
    · rw [if_pos ha]
      exact ⟨by decide, by decide⟩
    · rw [if_neg ha]
      have h1 := day3_date a b c (by omega)
      have h2 := dateR_rng a b c (by omega)
      have h3 : day3 [a, b, c] = dayOf (dateL a b c) := by
        show (if 2 < a.length then (0, 3) else dayOf (dateL a b c)) = _
        rw [if_neg ha]
      rw [h3] at h1
      rw [h1]
      by_cases hg : (dateR a b c).2 = true ∧ 0 ≤ (dateR a b c).1
      · rw [if_pos hg]
        have := h2 hg.1
        exact ⟨by show _ ≤ _ * (86400 : Int); omega, by show _ * (86400 : Int) ≤ _; omega⟩
      · rw [if_neg hg]
        exact ⟨by decide, by decide⟩
  · exact ⟨by decide, by decide⟩
theorem numberL_rng (l : List UInt8) : 0 ≤ (numberL l).1 ∧ (numberL l).1 ≤ 4294967295 := by
  refine ⟨numberL_ge l, ?_⟩
  unfold numberL
  split
  · show (0 : Int) ≤ _
    omega
  · split
    · split
      · show (0 : Int) ≤ _
        omega
      · show _ ≤ _
        omega
    · show (0 : Int) ≤ _
      omega

section
variable {w0 w w' : World} {g ob mb : Nat} {uv : Value} {E : CEnv} {ws : List WT} {out : Out} {mod : Bool} {h : Hn}

/-- A number, out of the next word. -/
def NumOut (w0 w : World) (g ob mb : Nat) (uv : Value) (E : CEnv) (ws : List WT) (out : Out) (mod : Bool) (h : Hn) (f : List WT → Option (Int × List WT)) (e : Ending) (w' : World) : Prop :=
  ∃ n ok ws', e = .returned (.tuple #[.int .i64 n, .bool ok]) ∧ KSt w0 w w' g ob mb uv E h ws' out mod h ∧ f ws = (if ok = true then some (n, ws') else none) ∧ -1000000000000 ≤ n ∧ n ≤ 1000000000000 ∧ szL ws' + (if ok = true then 1 else 0) ≤ szL ws

set_option maxRecDepth 100000 in
set_option maxHeartbeats 1000000 in
theorem num_anyC (s : RAt w0 w g ob mb uv E ws out mod h) :
    Calls Tryz.prog 109 #[.pointer (some ⟨g, 0, none⟩)] w (NumOut w0 w g ob mb uv E ws out mod h numP) := by
  have hw := word_anyC s
  clear s
  go_enter Tryz.func109, Tryz.ntmps109
  go_wp2_with (first
    | (go_at_call 105; refine hw.mono ?_; rintro e w2 ⟨t, ok, ws', rfl, hks, hwp, hsz, hle⟩; have HK := Lib.hid hks; have HW := Lib.hid hwp; have HL := Lib.hid hle; clear hks hwp hle hw; cases ok)
    | (go_at_call 139; refine (number_any _ _ (by omega)).mono ?_; rintro e w3 ⟨rfl, rfl⟩; have hr := numberL_rng t.data.toList; have HR := Lib.hid hr; clear hr; obtain ⟨nn, hnn⟩ : ∃ nn, nn = numberL t.data.toList := ⟨_, rfl⟩; rw [← hnn] at HR ⊢; have HNN := Lib.hid hnn; clear hnn; obtain ⟨n, is⟩ := nn; simp only at HR ⊢)
    | fail)
  · go_ret2
    refine ⟨_, false, _, rfl, HK.out, ?_, ?_, ?_, ?_⟩
    · have := HW.out
      simp only [Bool.false_eq_true, if_false] at this
      simp [numP, this]
    · have := HR.out
      omega
    · have := HR.out
      omega
    · have := HL.out
      simpa using this
  · go_ret2
    have h1 := HW.out
    simp only [if_true] at h1
    have h2 := HNN.out
    refine ⟨_, is, _, rfl, HK.out, ?_, ?_, ?_, ?_⟩
    · simp [numP, h1, ← h2]
    · have := HR.out
      omega
    · have := HR.out
      omega
    · have := HL.out
      simp only [if_true] at this
      cases is
      · simp only [Bool.false_eq_true, if_false]
        omega
      · simpa using this

set_option maxRecDepth 100000 in
set_option maxHeartbeats 1000000 in
theorem day_anyC (s : RAt w0 w g ob mb uv E ws out mod h) (he : EAt w0 uv E) :
    Calls Tryz.prog 108 #[.pointer (some ⟨g, 0, none⟩)] w (NumOut w0 w g ob mb uv E ws out mod h dayP) := by
  have hw := word_anyC s
  have HM := Lib.hid he.mx
  clear s he
  go_enter Tryz.func108, Tryz.ntmps108
  go_wp2_with (first
    | (go_at_call 105; refine hw.mono ?_; rintro e w2 ⟨t, ok, ws', rfl, hks, hwp, hsz, hle⟩; have HK := Lib.hid hks; have HW := Lib.hid hwp; have HL := Lib.hid hle; clear hks hwp hle hw; cases ok)
    | (go_at_call 138; refine (readDay_anyD _ _ (by omega) (HM.out.below HK.out.at_.bel)).mono ?_; rintro e w3 ⟨rfl, hb3⟩; have HK3 := Lib.hid (HK.out.below hb3); have hr := dayL_rng t.data.toList; have HR := Lib.hid hr; clear hr hb3; obtain ⟨nn, hnn⟩ : ∃ nn, nn = dayL t.data.toList := ⟨_, rfl⟩; rw [← hnn] at HR ⊢; have HNN := Lib.hid hnn; clear hnn; obtain ⟨n, er⟩ := nn; simp only at HR ⊢)
    | fail)
  · go_ret2
    refine ⟨_, false, _, rfl, HK3.out, ?_, ?_, ?_, ?_⟩
    · have := HW.out
      simp only [Bool.false_eq_true, if_false] at this
      simp [dayP, this]
    · exact HR.out.1
    · exact HR.out.2
    · have := HL.out
      simpa using this
  · go_ret2
    have h1 := HW.out
    simp only [if_true] at h1
    have h2 := HNN.out
    have h3 := HL.out
    simp only [if_true] at h3
    refine ⟨_, (er == 0), _, rfl, HK3.out, ?_, HR.out.1, HR.out.2, ?_⟩
    · simp [dayP, h1, ← h2]
    · split <;> omega
end

end Go.Proofs.YtnfabgbidkddhaaGreatDoor
