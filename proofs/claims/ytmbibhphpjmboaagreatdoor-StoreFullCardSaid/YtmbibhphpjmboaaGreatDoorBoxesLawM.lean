/-
  The walk of pillarboxlaw18.StoreBoxes.
-/
import Derived.Test.YtmbibhphpjmboaaGreatDoorSeenWM
import Derived.Test.YtmbibhphpjmboaaGreatDoorGO
import Derived.Test.YtmbibhphpjmboaaGreatDoorGN
namespace Go.Proofs.YtmbibhphpjmboaaGreatDoor
open Go.Shelf Go.RowKit
attribute [local go_sem ↓] Go.wp_at_zero Go.wp_at_succ

theorem makeP_right {r1 r2 : Text → Bool} {nl : Text} (h : r1 nl = r2 nl) (x : Acc) (p : Int) : makeP r1 x nl p = makeP r2 x nl p := by
  unfold makeP
  rw [h]
theorem renameP_right {r1 r2 : Text → Bool} {nl : Text} (h : r1 nl = r2 nl) (x : Acc) (id p : Int) : renameP r1 x id nl p = renameP r2 x id nl p := by
  unfold renameP
  rw [h]
theorem right_n : rightU [110] = asciiRight [110] := by decide +kernel
theorem right_inbox : rightU [105, 110, 66, 111, 120] = asciiRight [105, 110, 66, 111, 120] := by decide +kernel
theorem right_x : rightU [120] = asciiRight [120] := by decide +kernel
theorem asciiRight_len (t : Text) (h : asciiRight t = true) : t.length ≤ 64 := by
  simp only [asciiRight, Bool.and_eq_true, decide_eq_true_eq] at h
  exact h.2.1
theorem chain_fit : ∀ n, Fit (chainP n)
  | 0 => newP_fit wideP_ok
  | n + 1 => by
    rw [chainP_succ]
    exact makeP_fit asciiRight asciiRight_len (chain_fit n) _ _
theorem pair_eq {α β : Type} {p : α × β} {a : α} (h : p.1 = a) : p = (a, p.2) := by
  subst h
  rfl
theorem trip_eq {α β γ : Type} {p : α × β × γ} {a : α} (h : p.1 = a) : p = (a, p.2.1, p.2.2) := by
  subst h
  rfl
/-- What the law does behind the chain. -/
theorem box_run (k : Nat) (h2 : 2 ≤ k) (h11 : k ≤ 11) : ∃ x1 e1 x2 e2 x3 i3 e3 x4 i4 e4 x5 e5 x6 e6 x7 i7 e7 x8 e8 x9 e9 x10 e10,
    (renameP rightU (chainP (k - 1)) 2 [110] k = (x1, e1) ∧ Fit x1) ∧ (dropP x1 2 = (x2, e2) ∧ Fit x2) ∧ (makeP rightU x2 [105, 110, 66, 111, 120] 0 = (x3, i3, e3) ∧ Fit x3) ∧ (makeP rightU x3 [110] 0 = (x4, i4, e4) ∧ Fit x4) ∧ (renameP rightU x4 1 [120] 0 = (x5, e5) ∧ Fit x5) ∧
    (dropP x5 1 = (x6, e6) ∧ Fit x6) ∧ (appendP headF x6 [(k : Int)] [] 0 [120] = (x7, i7, e7) ∧ Fit x7) ∧ (dropP x7 k = (x8, e8) ∧ Fit x8) ∧ (destroyP x8 1 = (x9, e9) ∧ Fit x9) ∧ (dropP x9 k = (x10, e10)) ∧
    (k = 2 → e1 = 10 ∧ e2 = 0) ∧ (3 ≤ k → e1 = 10 ∧ e2 = 10 ∧ e3 = 5 ∧ e4 = 5 ∧ e5 = 1 ∧ e6 = 1 ∧ e8 = 10 ∧ e10 = 0) := by
  have f0 : Fit (b0 k) := chain_fit (k - 1)
  have f1 : Fit (b1 k) := renameP_fit asciiRight asciiRight_len f0 2 [110] k
  have f2 : Fit (b2 k) := dropP_fit f1 2
  have f3 : Fit (b3 k) := makeP_fit asciiRight asciiRight_len f2 _ 0
  have f4 : Fit (b4 k) := makeP_fit asciiRight asciiRight_len f3 _ 0
  have f5 : Fit (b5 k) := renameP_fit asciiRight asciiRight_len f4 1 [120] 0
  have f6 : Fit (b6 k) := dropP_fit f5 1
  have hap : appendP headF (b6 k) [(k : Int)] [] 0 [120] = appendK headF (b6 k) [(k : Int)] ([], 0) 0 [120] := by
    unfold appendP
    rw [keysF_nil]
  have f7 : Fit (b7 k) := by
    have h1 := appendP_fit headF f6 [(k : Int)] [] 0 [120] (by rw [keysF_nil]; decide)
    rw [hap] at h1
    exact h1
  have f8 : Fit (b8 k) := dropP_fit f7 k
  have f9 : Fit (b9 k) := destroyP_fit f8 1
  refine ⟨b1 k, (renameP asciiRight (b0 k) 2 [110] k).2, b2 k, (dropP (b1 k) 2).2, b3 k, (makeP asciiRight (b2 k) [105, 110, 66, 111, 120] 0).2.1, (makeP asciiRight (b2 k) [105, 110, 66, 111, 120] 0).2.2, b4 k, (makeP asciiRight (b3 k) [110] 0).2.1, (makeP asciiRight (b3 k) [110] 0).2.2, b5 k, (renameP asciiRight (b4 k) 1 [120] 0).2, b6 k, (dropP (b5 k) 1).2, b7 k, (appendK headF (b6 k) [(k : Int)] ([], 0) 0 [120]).2.1, (appendK headF (b6 k) [(k : Int)] ([], 0) 0 [120]).2.2, b8 k, (dropP (b7 k) k).2, b9 k, (destroyP (b8 k) 1).2, (dropP (b9 k) k).1, (dropP (b9 k) k).2, ⟨?_, f1⟩, ⟨pair_eq (by rw [b2]), f2⟩, ⟨?_, f3⟩, ⟨?_, f4⟩, ⟨?_, f5⟩, ⟨pair_eq (by rw [b6]), f6⟩, ⟨?_, f7⟩, ⟨pair_eq (by rw [b8]), f8⟩, ⟨pair_eq (by rw [b9]), f9⟩, pair_eq rfl, fun hk => ?_, fun hk => ?_⟩
  · rw [renameP_right right_n]
    show renameP asciiRight (b0 k) 2 [110] k = _
    exact pair_eq (by rw [b1])
  · rw [makeP_right right_inbox]
    exact trip_eq (by rw [b3])
  · rw [makeP_right right_n]
    exact trip_eq (by rw [b4])
  · rw [renameP_right right_x]
    exact pair_eq (by rw [b5])
  · rw [hap]
    exact trip_eq (by rw [b7])
  · subst hk
    exact boxes_two
  · have h1 := boxes_more ⟨k, by omega⟩ hk
    exact h1
theorem chain_next (m : Nat) (h2 : 2 ≤ m) (h11 : m ≤ 11) (p : Int) (hp : p = if m = 2 then 0 else (m : Int) - 1) : makeP rightU (chainP (m - 2)) [110] p = (chainP (m - 1), (m : Int), 0) := by
  obtain ⟨n, rfl⟩ : ∃ n, m = n + 2 := ⟨m - 2, by omega⟩
  have h1 := chain_made ⟨n, by omega⟩
  simp only at h1
  have hp2 : p = (if n = 0 then 0 else (n : Int) + 1) := by
    rw [hp]
    by_cases h0 : n = 0
    · rw [if_pos (by omega), if_pos h0]
    · rw [if_neg (by omega), if_neg h0]
      omega
  rw [makeP_right right_n, hp2]
  show makeP asciiRight (chainP n) [110] (if n = 0 then 0 else (n : Int) + 1) = (chainP (n + 1), ((n + 2 : Nat) : Int), 0)
  rw [chainP_succ]
  refine Prod.ext rfl ?_
  rw [h1]
  simp
/-- Mailbox k alone, just laid. -/
theorem k_in {w : World} {g : Nat} {q : Lies} {x : Acc} (h : StoreAt w g q x) (hf : Fit x) (k : Int) (t : List UInt8) (ht : t.length ≤ 1099511627776) : AppIn (w.alloc (.cells #[.int .i64 k] 3)) g q x [k] (.slice (some ⟨w.heap.size, 0, none⟩) 1 1) [] [] (.slice none 0 0) [] t :=
  ⟨h.alloc _, hf, (oneI_sl (Blk.new w 3 #[.int .i64 k])).reads [] (by simp), by simp, ⟨by simp, .inl ⟨rfl, rfl⟩⟩, by decide, fun s hs => by simp at hs, ht⟩

set_option maxRecDepth 100000 in
set_option maxHeartbeats 8000000 in
theorem storeBoxes_any (happ : AppendOk) (d : Nat) (hd : d ≤ 255) (w : World) : Calls Tryz.prog 7 #[.int .u8 d] w fun e w' => e = .returned (.bool true) ∧ Below w.heap.size w w' := by
  have hW := wide_any w
  have hN := fun W => newA_any 1000 100 1048576 1073741824 1073741824 10000 200 (by unfold lim; omega) (by unfold lim; omega) (by unfold lim; omega) (by unfold lim; omega) (by unfold lim; omega) (by unfold lim; omega) (by unfold lim; omega) W
  obtain ⟨k, hk, hk2, hk11⟩ : ∃ k : Nat, (2 : Int) + (d : Int) % 10 = (k : Int) ∧ 2 ≤ k ∧ k ≤ 11 := ⟨2 + d % 10, by omega, by omega, by omega⟩
  obtain ⟨x1, e1, x2, e2, x3, i3, e3, x4, i4, e4, x5, e5, x6, e6, x7, i7, e7, x8, e8, x9, e9, x10, e10, ⟨r1, f1⟩, ⟨r2, f2⟩, ⟨r3, f3⟩, ⟨r4, f4⟩, ⟨r5, f5⟩, ⟨r6, f6⟩, ⟨r7, f7⟩, ⟨r8, f8⟩, ⟨r9, f9⟩, r10, ra, rb⟩ := box_run k hk2 hk11
  have HAPP := Lib.hid happ
  have R1 := Lib.hid r1
  have R2 := Lib.hid r2
  have R3 := Lib.hid r3
  have R4 := Lib.hid r4
  have R5 := Lib.hid r5
  have R6 := Lib.hid r6
  have R7 := Lib.hid r7
  have R8 := Lib.hid r8
  have R9 := Lib.hid r9
  have R10 := Lib.hid r10
  have F1 := Lib.hid f1
  have F2 := Lib.hid f2
  have F3 := Lib.hid f3
  have F4 := Lib.hid f4
  have F5 := Lib.hid f5
  have F6 := Lib.hid f6
  have F7 := Lib.hid f7
  have F8 := Lib.hid f8
  have F9 := Lib.hid f9
  have RA := Lib.hid ra
  have RB := Lib.hid rb
  clear happ r1 r2 r3 r4 r5 r6 r7 r8 r9 r10 f1 f2 f3 f4 f5 f6 f7 f8 f9 ra rb
  go_enter Tryz.func7, Tryz.ntmps7
  go_upto_region 2 with (fail)
  clear hk
  go_upto_if 36 with (first
    | (go_at_call 17; refine hW.mono ?_; rintro e w1 ⟨rfl, hb1⟩; have HB1 := Lib.hid hb1; clear hW hb1)
    | (go_at_call 16; refine (hN _).mono ?_; rintro e w2 ⟨g, q, rfl, ho⟩; have HO := Lib.hid (OwnStore.from_ ho HB1.out); clear hN ho)
    | (go_at_call 18; refine (num_any _ _).mono ?_; rintro e wn ⟨rfl, rfl⟩)
    | fail)
  have HO0 : Hid (OwnStore w w2 g q (chainP 0)) := HO
  clear HO
  go_wp2_with fail
  go_loopw [6] (fun i wr => ∃ (m : Nat) (q' : Lies), 2 ≤ m ∧ m ≤ k + 1 ∧ i = .int .i64 m ∧ Hid (OwnStore w wr g q' (chainP (m - 2)))) (fun i _ => k + 1 - (intOf i).toNat)
  case atStart => exact ⟨2, q, Nat.le_refl _, by omega, rfl, HO0⟩
  case round =>
    obtain ⟨m, q', hm2, hmk, rfl, HOm⟩ := hrel
    by_cases hle : m ≤ k
    · have hle1 : (m : Int) ≤ (k : Int) := by omega
      have hw1 : IntKind.i64.wrap ((m : Int) - 1) = (m : Int) - 1 := IntWalk.i64_in _ (by omega)
      have hw2 : IntKind.i64.wrap ((m : Int) + 1) = (m : Int) + 1 := IntWalk.i64_in _ (by omega)
      have hm11 : m ≤ 11 := by omega
      by_cases hm : m = 2
      · have hq : ((m : Int) == 2) = true := by rw [hm]; rfl
        have hmc := make_any wr g q' (chainP (m - 2)) [110] 0 HOm.out.at_ (chain_fit _) (by decide)
        rw [chain_next m hm2 hm11 0 (by rw [if_pos hm])] at hmc
        go_wp2_with (first
          | (go_at_call 27; refine hmc.mono ?_; rintro e w3 ⟨rfl, q3, ht3⟩; have HO3 := Lib.hid (HOm.out.turned ht3); clear hmc ht3)
          | (go_at_call 18; refine (num_any _ _).mono ?_; rintro e wn ⟨rfl, rfl⟩)
          | fail)
        refine ⟨?_, by simp [intOf]; omega⟩
        first | exact ⟨m + 1, q3, by omega, by omega, by go_num, HO3⟩ | ((repeat apply Exists.intro); exact ⟨⟨m + 1, q3, by omega, by omega, by go_num, HO3⟩, rfl⟩)
      · have hq : ((m : Int) == 2) = false := by simp; omega
        have hmc := make_any wr g q' (chainP (m - 2)) [110] ((m : Int) - 1) HOm.out.at_ (chain_fit _) (by decide)
        rw [chain_next m hm2 hm11 ((m : Int) - 1) (by rw [if_neg hm])] at hmc
        clear hm
        go_wp2_with (first
          | (go_at_call 27; refine hmc.mono ?_; rintro e w3 ⟨rfl, q3, ht3⟩; have HO3 := Lib.hid (HOm.out.turned ht3); clear hmc ht3)
          | (go_at_call 18; refine (num_any _ _).mono ?_; rintro e wn ⟨rfl, rfl⟩)
          | fail)
        refine ⟨?_, by simp [intOf]; omega⟩
        first | exact ⟨m + 1, q3, by omega, by omega, by go_num, HO3⟩ | ((repeat apply Exists.intro); exact ⟨⟨m + 1, q3, by omega, by omega, by go_num, HO3⟩, rfl⟩)
    · have hle1 : ¬ (m : Int) ≤ (k : Int) := by omega
      have HOk : Hid (OwnStore w wr g q' (chainP (k - 1))) := Lib.hid (by
        have h1 := HOm.out
        rw [show m - 2 = k - 1 by omega] at h1
        exact h1)
      have FK : Hid (Fit (chainP (k - 1))) := Lib.hid (chain_fit _)
      generalize chainP (k - 1) = x0 at HOk FK R1
      have c1 := rename_said wr g q' x0 2 [110] k HOk.out.at_ FK.out (by decide)
      rw [R1.out] at c1
      clear hle HOm
      go_upto_if 92 with (first
        | (go_at_call 29; refine c1.mono ?_; rintro e w1 ⟨rfl, q1, ht⟩; have HO1 := Lib.hid (HOk.out.turned ht); have c2 := drop_said w1 g q1 x1 2 HO1.out.at_ F1.out; rw [R2.out] at c2; clear c1 ht)
        | (go_at_call 30; refine c2.mono ?_; rintro e w2 ⟨rfl, q2, ht⟩; have HO2 := Lib.hid (HO1.out.turned ht); have c3 := make_any w2 g q2 x2 [105, 110, 66, 111, 120] 0 HO2.out.at_ F2.out (by decide); rw [R3.out] at c3; clear c2 ht)
        | (go_at_call 27; refine c3.mono ?_; rintro e w3 ⟨rfl, q3, ht⟩; have HO3 := Lib.hid (HO2.out.turned ht); have c4 := make_any w3 g q3 x3 [110] 0 HO3.out.at_ F3.out (by decide); rw [R4.out] at c4; clear c3 ht)
        | (go_at_call 27; refine c4.mono ?_; rintro e w4 ⟨rfl, q4, ht⟩; have HO4 := Lib.hid (HO3.out.turned ht); have c5 := rename_said w4 g q4 x4 1 [120] 0 HO4.out.at_ F4.out (by decide); rw [R5.out] at c5; clear c4 ht)
        | (go_at_call 29; refine c5.mono ?_; rintro e w5 ⟨rfl, q5, ht⟩; have HO5 := Lib.hid (HO4.out.turned ht); have c6 := drop_said w5 g q5 x5 1 HO5.out.at_ F5.out; rw [R6.out] at c6; clear c5 ht)
        | (go_at_call 30; refine c6.mono ?_; rintro e w6 ⟨rfl, q6, ht⟩; have HO6 := Lib.hid (HO5.out.turned ht); have c7 := HAPP.out _ g q6 x6 [(k : Int)] _ [] [] _ [] 0 [120] (k_in HO6.out.at_ F6.out k [120] (by decide)); rw [R7.out] at c7; clear c6 ht)
        | (go_at_call 19; refine c7.mono ?_; rintro e w7 ⟨rfl, q7, ht⟩; have HO7 := Lib.hid ((HO6.out.later (below_alloc1 _ _)).turned ht); have c8 := drop_said w7 g q7 x7 k HO7.out.at_ F7.out; rw [R8.out] at c8; clear c7 ht)
        | (go_at_call 30; refine c8.mono ?_; rintro e w8 ⟨rfl, q8, ht⟩; have HO8 := Lib.hid (HO7.out.turned ht); have c9 := destroy_said w8 g q8 x8 1 HO8.out.at_ F8.out; rw [R9.out] at c9; clear c8 ht)
        | (go_at_call 28; refine c9.mono ?_; rintro e w9 ⟨rfl, q9, ht⟩; have HO9 := Lib.hid (HO8.out.turned ht); have c10 := drop_said w9 g q9 x9 k HO9.out.at_ F9.out; rw [R10.out] at c10; clear c9 ht)
        | (go_at_call 30; refine c10.mono ?_; rintro e w10 ⟨rfl, q10, ht⟩; have HO10 := Lib.hid (HO9.out.turned ht); clear c10 ht)
        | fail)
      have haw := awake_any HAPP.out w10
      by_cases hk : k = 2
      · obtain ⟨rfl, rfl⟩ := RA.out hk
        have hq : ((k : Int) == 2) = true := by rw [hk]; rfl
        clear hk RA RB
        go_wp2_with (first
          | (go_at_call 18; refine (num_any _ _).mono ?_; rintro e wn ⟨rfl, rfl⟩)
          | (go_at_call 15; refine haw.mono ?_; rintro e w13 ⟨rfl, hb13⟩; have HB13 := Lib.hid hb13; clear hb13 haw)
          | fail)
        go_ret
        exact ⟨rfl, below_then HO10.out.below HB13.out⟩
      · obtain ⟨rfl, rfl, rfl, rfl, rfl, rfl, rfl, rfl⟩ := RB.out (by omega)
        have hq : ((k : Int) == 2) = false := by simp; omega
        clear hk RA RB
        go_wp2_with (first
          | (go_at_call 18; refine (num_any _ _).mono ?_; rintro e wn ⟨rfl, rfl⟩)
          | (go_at_call 15; refine haw.mono ?_; rintro e w13 ⟨rfl, hb13⟩; have HB13 := Lib.hid hb13; clear hb13 haw)
          | fail)
        go_ret
        exact ⟨rfl, below_then HO10.out.below HB13.out⟩

end Go.Proofs.YtmbibhphpjmboaaGreatDoor
