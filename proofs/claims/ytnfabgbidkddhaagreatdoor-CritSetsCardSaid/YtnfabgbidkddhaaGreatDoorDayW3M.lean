/-
  The walk of date.ReadDay: the day that a text tells, or that there is none; nothing that was there turns.
-/
import Derived.Test.YtnfabgbidkddhaaGreatDoorDayW2M
namespace Go.Proofs.YtnfabgbidkddhaaGreatDoor
open Go.Shelf Go.RowKit Go.Lib

theorem dateR_rng (a b c : List UInt8) (ha : a.length ≤ 2) (h : (dateR a b c).2 = true) : -800000 ≤ (dateR a b c).1 ∧ (dateR a b c).1 ≤ 4000000 := by
  unfold dateR dateL at *
  by_cases hg : (digL a).2 = true ∧ (digL c).2 = true ∧ c.length = 4 ∧ monthL b ≠ 0 ∧ 1 ≤ (digL a).1 ∧ (digL a).1 ≤ longP (digL c).1 (monthL b)
  · rw [if_pos hg]
    obtain ⟨h1, h2, h3, h4, h5, h6⟩ := hg
    have r1 := digL_rng a
    have r2 := digL_rng c
    have r3 := monthL_rng b
    have e2 : ∀ j : Nat, j ≤ 2 → (10 : Int) ^ j ≤ 100 := by decide
    have e3 := e2 a.length ha
    rw [h3] at r2
    have e4 : (10 : Int) ^ 4 = 10000 := by decide
    exact daysP_rng _ _ _ ⟨r2.1, by omega⟩ ⟨by omega, r3.2⟩ ⟨h5, by omega⟩
  · rw [if_neg hg] at h
    cases h
theorem day3_date (a b c : List UInt8) (ha : a.length ≤ 2) : day3 [a, b, c] = if (dateR a b c).2 = true ∧ 0 ≤ (dateR a b c).1 then ((dateR a b c).1 * 86400, 0) else (0, 3) := by
  show (if 2 < a.length then (0, 3) else dayOf (dateL a b c)) = _
  rw [if_neg (by omega)]
  unfold dateR
  cases dateL a b c with
  | none => simp [dayOf]
  | some d =>
    show (if d < 0 then (0, 3) else (d * 86400, 0)) = _
    by_cases hd : d < 0
    · rw [if_pos hd, if_neg (by simp; omega)]
    · rw [if_neg hd, if_pos (by simp; omega)]

set_option maxRecDepth 100000 in
set_option maxHeartbeats 4000000 in
theorem readDay_anyD (s : ByteArray) (w : World) (hs : s.size ≤ 100000) (hm : Mx w) :
    Calls Tryz.prog 138 #[.string s] w fun e w' => e = .returned (.tuple #[.int .i64 (dayL s.data.toList).1, .int .i64 (dayL s.data.toList).2]) ∧ Below w.heap.size w w' := by
  obtain ⟨m0, hm0⟩ := hm
  have hsp := Tryz.strings_Split s ⟨#[45]⟩ m0 w (by omega) hm0 (by decide)
  have hpc := splitB_pieces 45 s
  have hln := splitB_all ⟨#[45]⟩ (by decide) 0 _ s rfl
  have hsizes : ∀ p ∈ splitB ⟨#[45]⟩ 0 (countB s ⟨#[45]⟩) s, p.size ≤ 140737488351232 := by
    intro p hp
    have h1 : p.data.toList ∈ piecesC 45 s.data.toList := by
      rw [← hpc]
      exact List.mem_map_of_mem hp
    have h2 := piecesC_size 45 _ _ h1
    have := lenB p
    have := lenB s
    omega
  have hN : countB s ⟨#[45]⟩ + 1 ≤ 140737488351233 := by
    have h1 := piecesC_count 45 s.data.toList
    rw [← hpc, List.length_map, hln] at h1
    have := lenB s
    omega
  have hres : dayL s.data.toList = day3 ((splitB ⟨#[45]⟩ 0 (countB s ⟨#[45]⟩) s).map fun p => p.data.toList) := by
    unfold dayL
    rw [← hpc]
  rw [hres]
  clear hpc hres hm0
  generalize splitB ⟨#[45]⟩ 0 (countB s ⟨#[45]⟩) s = P at hsp hln hsizes ⊢
  generalize hNe : countB s ⟨#[45]⟩ + 1 = N at hsp hln hN
  clear hNe
  obtain ⟨r1, r2, hr⟩ : ∃ r1 r2, day3 (P.map fun p => p.data.toList) = (r1, r2) := ⟨_, _, rfl⟩
  rw [hr]
  by_cases h3 : N = 3
  · subst h3
    obtain ⟨a, b, c, rfl⟩ : ∃ a b c, P = [a, b, c] := by
      match P, hln with
      | [a, b, c], _ => exact ⟨a, b, c, rfl⟩
    have hsa := hsizes a (by simp)
    have hsb := hsizes b (by simp)
    have hsc := hsizes c (by simp)
    have hB := Blk.new w 9 #[.string a, .string b, .string c]
    have q0 : (w.alloc (.cells #[.string a, .string b, .string c] 9)).cell? ⟨w.heap.size, 0, none⟩ = some (.string a) := hB.cell 0
    have q1 : (w.alloc (.cells #[.string a, .string b, .string c] 9)).cell? ⟨w.heap.size, 1, none⟩ = some (.string b) := hB.cell 1
    have q2 : (w.alloc (.cells #[.string a, .string b, .string c] 9)).cell? ⟨w.heap.size, 2, none⟩ = some (.string c) := hB.cell 2
    have HB0 := Lib.hid ((Below.refl w.heap.size w).alloc (Nat.le_refl _) (.cells #[.string a, .string b, .string c] 9))
    simp only [List.map_cons, List.map_nil, List.toArray] at hsp
    have hW : ∃ W1 X, w.alloc (.cells #[.string a, .string b, .string c] 9) = W1 ∧ w.heap.size = X := ⟨_, _, rfl, rfl⟩
    obtain ⟨W1, X, hW1, hX⟩ := hW
    rw [hW1, hX] at q0 q1 q2
    rw [hW1] at HB0
    by_cases ha : 2 < a.size
    · have hd : day3 ([a, b, c].map fun p => p.data.toList) = (0, 3) := by
        show (if 2 < a.data.toList.length then (0, 3) else _) = ((0 : Int), (3 : Int))
        rw [if_pos (by rw [lenB]; exact ha)]
      rw [hd] at hr
      injection hr with hr1 hr2
      subst hr1 hr2
      clear hd hln hsizes hB hN
      go_enter Tryz.func138, Tryz.ntmps138
      go_wp2_with (first
        | (go_at_call 97; refine hsp.mono ?_; rintro e w1 ⟨rfl, rfl⟩; clear hsp)
        | fail)
      go_ret2
      exact ⟨rfl, HB0.out⟩
    · have hdd := day3_date a.data.toList b.data.toList c.data.toList (by rw [lenB]; omega)
      have hrg := dateR_rng a.data.toList b.data.toList c.data.toList (by rw [lenB]; omega)
      have hda := fun W => date_anyD a b c W (by omega) hsb hsc
      have hr : day3 [a.data.toList, b.data.toList, c.data.toList] = (r1, r2) := hr
      rw [hdd] at hr
      generalize dateR a.data.toList b.data.toList c.data.toList = rr at hr hrg hda
      obtain ⟨d, ok⟩ := rr
      simp only at hr hrg hda
      have HR := Lib.hid hr
      have hxl : X < W1.heap.size := by rw [← hW1, ← hX]; simp
      have HQ := Lib.hid (fun W (hb : Below W1.heap.size W1 W) => (⟨(hb.cell (p := ⟨X, 0, none⟩) hxl).trans q0, (hb.cell (p := ⟨X, 1, none⟩) hxl).trans q1, (hb.cell (p := ⟨X, 2, none⟩) hxl).trans q2⟩ : W.cell? ⟨X, 0, none⟩ = some (.string a) ∧ W.cell? ⟨X, 1, none⟩ = some (.string b) ∧ W.cell? ⟨X, 2, none⟩ = some (.string c)))
      clear hr hdd hln hsizes hB hN hxl
      go_enter Tryz.func138, Tryz.ntmps138
      go_upto_region 4 with (first
        | (go_at_call 97; refine hsp.mono ?_; rintro e w1 ⟨rfl, rfl⟩; clear hsp)
        | fail)
      go_region_held3 (fun W => W.cell? ⟨X, 0, none⟩ = some (.string a) ∧ W.cell? ⟨X, 1, none⟩ = some (.string b) ∧ W.cell? ⟨X, 2, none⟩ = some (.string c)) (first | exact HQ2.out | go_keep) (first
        | (go_at_call 166; refine (hda _).mono ?_; rintro e w2 ⟨rfl, hb2⟩; have HB2 := Lib.hid (show Below W1.heap.size W1 w2 from belowDD hb2); have HQ2 := Lib.hid (HQ.out w2 (belowDD hb2)); clear hb2)
        | fail)
      all_goals
        have HB4 := Lib.hid (belowD HB0.out HB2.out)
        have hr := HR.out
        cases ok with
        | false =>
          rw [if_neg (by simp)] at hr
          injection hr with hr1 hr2
          subst hr1 hr2
          go_wp2
          go_ret2
          exact ⟨rfl, by first | exact HB4.out | exact hX ▸ HB4.out⟩
        | true =>
          obtain ⟨g1, g2⟩ := hrg rfl
          by_cases h0 : 0 ≤ d
          · rw [if_pos ⟨rfl, h0⟩] at hr
            injection hr with hr1 hr2
            subst hr1 hr2
            go_wp2
            go_ret2
            exact ⟨rfl, by first | exact HB4.out | exact hX ▸ HB4.out⟩
          · rw [if_neg (by simp; omega)] at hr
            injection hr with hr1 hr2
            subst hr1 hr2
            go_wp2
            go_ret2
            exact ⟨rfl, by first | exact HB4.out | exact hX ▸ HB4.out⟩
  · have hd : day3 (P.map fun p => p.data.toList) = (0, 3) := by
      match P, hln with
      | [], _ => rfl
      | [_], _ => rfl
      | [_, _], _ => rfl
      | [_, _, _], h => exact absurd h.symm h3
      | _ :: _ :: _ :: _ :: _, _ => rfl
    rw [hd] at hr
    injection hr with hr1 hr2
    subst hr1 hr2
    have hne : ((N : Int) != 3) = true := by simp; omega
    have HB0 := Lib.hid ((Below.refl w.heap.size w).alloc (Nat.le_refl _) (.cells (P.map Value.string).toArray 9))
    clear hd hln hsizes h3
    go_enter Tryz.func138, Tryz.ntmps138
    go_wp2_with (first
      | (go_at_call 97; refine hsp.mono ?_; rintro e w1 ⟨rfl, rfl⟩; clear hsp)
      | fail)
    go_ret2
    exact ⟨rfl, HB0.out⟩

end Go.Proofs.YtnfabgbidkddhaaGreatDoor
