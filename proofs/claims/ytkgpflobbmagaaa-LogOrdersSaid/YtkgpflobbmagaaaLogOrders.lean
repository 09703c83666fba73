/-
  The walk of pillarboxlaw17.LogOrders, and the plain law.
-/
import Derived.Test.YtkgpflobbmagaaaLogEnts
import Derived.StillTailTactics
namespace Go.Proofs.Ytkgpflobbmagaaa
open Go.RowKit
attribute [local go_sem ↓] Go.wp_at_zero Go.wp_at_succ

def ordE (a b c : Nat) : List E4 := [⟨1 + a, 1, 1, 1⟩, ⟨1 + b, 1, 2, 1⟩, ⟨1 + c, 1, 3, 1⟩]
def ordN (a b c : Nat) : Nat := if b < a then 1 else if c < b then 2 else 3
theorem ordN_bound (a b c : Nat) : 1 ≤ ordN a b c ∧ ordN a b c ≤ 3 := by
  unfold ordN
  split
  · omega
  · split <;> omega
theorem ord_add (a b c : Nat) : LogV.add ⟨100, [], 0⟩ (ordE a b c) = ⟨100, (ordE a b c).take (ordN a b c), 0⟩ := by
  have h : addLoop [] (ordE a b c) = (ordE a b c).take (ordN a b c) := by
    unfold ordE ordN
    by_cases h1 : b < a
    · have h3 : (1 : Int) + b < 1 + a := by omega
      simp [addLoop, h1, h3]
    · have h3 : ¬ (1 : Int) + b < 1 + a := by omega
      by_cases h2 : c < b
      · have h4 : (1 : Int) + c < 1 + b := by omega
        simp [addLoop, h1, h3, h2, h4]
      · have h4 : ¬ (1 : Int) + c < 1 + b := by omega
        simp [addLoop, h1, h3, h2, h4]
  have hb := ordN_bound a b c
  have hl : ((ordE a b c).take (ordN a b c)).length ≤ 3 := by
    rw [List.length_take]
    have : (ordE a b c).length = 3 := rfl
    omega
  unfold LogV.add
  simp only [h]
  rw [if_neg (by omega)]
theorem ord_len (a b c : Nat) : ((ordE a b c).take (ordN a b c)).length = ordN a b c := by
  have hb := ordN_bound a b c
  rw [List.length_take]
  have : (ordE a b c).length = 3 := rfl
  omega

/-- What was laid reads so. -/
theorem rds_block {w : World} {X : Nat} {cs : Array Value} {t : TypeId} {size n cap : Nat} {xs : List Value} (hB : Blk w X t cs) (hlen : xs.length = n * size) (hx : ∀ j, j < n * size → cs[j]? = xs[j]?) (hn : n ≤ cap) (hc : cap ≤ maxLen) :
    RdS w [] size (.slice (some ⟨X, 0, none⟩) n cap) n xs :=
  ⟨hlen, .inr ⟨⟨X, 0, none⟩, cap, rfl, hn, hc, fun _ => ⟨rfl, hB.lt, by simp, fun j hj => by
    rw [Nat.zero_add, hB.cell, hx j hj]⟩⟩⟩

set_option maxRecDepth 100000 in
set_option maxHeartbeats 2000000 in
theorem logOrders_any (a b c : Nat) (ha : a ≤ 255) (hb : b ≤ 255) (hc : c ≤ 255) (w : World) : Calls Try.prog 6 #[.int .u8 a, .int .u8 b, .int .u8 c] w fun e w' => e = .returned (.bool true) ∧ Below w.heap.size w w' := by
  obtain ⟨N, hN⟩ : ∃ N, ordN a b c = N := ⟨_, rfl⟩
  have hbr : (b < a ∧ c < b ∧ N = 1) ∨ (b < a ∧ ¬ c < b ∧ N = 1) ∨ (¬ b < a ∧ c < b ∧ N = 2) ∨ (¬ b < a ∧ ¬ c < b ∧ N = 3) := by
    unfold ordN at hN
    split at hN
    · omega
    · split at hN <;> omega
  have hadd := ord_add a b c
  have hlen := ord_len a b c
  rw [hN] at hadd hlen
  have hflat : ∀ j, j < N * 4 → (#[.int .i64 (1 + (a : Int)), .int .i64 1, .int .i64 1, .int .i64 1, .int .i64 (1 + (b : Int)), .int .i64 1, .int .i64 2, .int .i64 1, .int .i64 (1 + (c : Int)), .int .i64 1, .int .i64 3, .int .i64 1] : Array Value)[j]? = (flatE ((ordE a b c).take N))[j]? := by
    intro j hj
    have h1 : flatE (ordE a b c) = flatE ((ordE a b c).take N) ++ flatE ((ordE a b c).drop N) := by rw [← flatE_append, List.take_append_drop]
    have h2 : (flatE ((ordE a b c).take N)).length = N * 4 := by rw [flatE_length, hlen]
    rw [← List.getElem?_append_left (l₂ := flatE ((ordE a b c).drop N)) (by omega), ← h1]
    simp [ordE, flatE, encE]
  have h1 := new_ok 100 w (by decide)
  have hNu := fun W n => num_any W n
  have hAw := fun W => awake17_any W
  have HADD := Lib.hid hadd
  have HLEN := Lib.hid hlen
  have HFLAT := Lib.hid hflat
  clear hadd hlen hflat hN
  go_enter Try.func6, Try.ntmps6
  rcases hbr with ⟨hb1, hb2, rfl⟩ | ⟨hb1, hb2, rfl⟩ | ⟨hb1, hb2, rfl⟩ | ⟨hb1, hb2, rfl⟩
  · go_wp2_with (first
      | (go_at_call 19; refine h1.mono ?_; rintro e w1 ⟨rfl, hl, hbl, hlt⟩; have HL := Lib.hid (OwnLog.new hl hbl); clear hl hbl h1)
      | (go_at_call 20; refine (hNu _ _).mono ?_; rintro e wn ⟨rfl, rfl⟩)
      | fail)
    have hA := add_any (w1.alloc (.cells #[.int .i64 (1 + (a : Int)), .int .i64 1, .int .i64 1, .int .i64 1, .int .i64 (1 + (b : Int)), .int .i64 1, .int .i64 2, .int .i64 1, .int .i64 (1 + (c : Int)), .int .i64 1, .int .i64 3, .int .i64 1] 42)) w.heap.size none ⟨100, [], 0⟩ (some ⟨w1.heap.size, 0, none⟩) 3 (ordE a b c) (HL.out.log.alloc _) (by decide) (by decide) (by decide) (by simp [ordE])
      (rdE_new w1 _ _ _ _ (by simp [ordE, flatE, encE]) HL.out.ne)
    rw [HADD.out] at hA
    go_wp2_with (first
      | (go_at_call 21; refine hA.mono ?_; rintro e w2 ⟨rfl, h2, hl2, hc2, ho2⟩; have HO := Lib.hid ((HL.out.alloc _).turned hl2 hc2 ho2); have HX := Lib.hid ((Blk.new w1 42 #[.int .i64 (1 + (a : Int)), .int .i64 1, .int .i64 1, .int .i64 1, .int .i64 (1 + (b : Int)), .int .i64 1, .int .i64 2, .int .i64 1, .int .i64 (1 + (c : Int)), .int .i64 1, .int .i64 3, .int .i64 1]).chg hc2 HL.out.ne); clear hA hl2 hc2 ho2)
      | fail)
    have hAl := fun W q => allO (w := w) (wr := W) (g := w.heap.size) (h := h2) (x := ⟨100, (ordE a b c).take 1, 0⟩) q (by rw [HLEN.out]; decide) 1 HLEN.out
    have hE : ∀ W A p hh, Sl W 42 4 (.slice A 1 p) hh 1 (flatE ((ordE a b c).take 1)) → Blk W w1.heap.size 42 #[.int .i64 (1 + (a : Int)), .int .i64 1, .int .i64 1, .int .i64 1, .int .i64 (1 + (b : Int)), .int .i64 1, .int .i64 2, .int .i64 1, .int .i64 (1 + (c : Int)), .int .i64 1, .int .i64 3, .int .i64 1] →
        Calls Try.prog 25 #[.slice A 1 p, .slice (some ⟨w1.heap.size, 0, none⟩) 1 3] W fun e w' => e = .returned (.bool true) ∧ Below W.heap.size W w' := fun W A p hh hs hX => by
      have h := entries_any W (.slice A 1 p) (.slice (some ⟨w1.heap.size, 0, none⟩) 1 3) ((ordE a b c).take 1) ((ordE a b c).take 1) (by rw [HLEN.out]; exact hs.reads [] (by simp)) (by rw [HLEN.out]; exact rds_block hX (by rw [flatE_length, HLEN.out]) HFLAT.out (by decide) (by decide))
      rw [decide_eq_true rfl] at h
      exact h
    go_region_with (first
      | (go_at_call 26; refine (hAl _ (HO.out.heap (by rfl) (by rfl) (by rfl) (by rfl))).mono ?_; rintro e w3 ⟨A3, p3, hh3, rfl, hu3, hb3, hs3, _⟩; have HU3 := Lib.hid hu3.below; have HS3 := Lib.hid hs3; have HX3 := Lib.hid ((HX.out.heap (by rfl)).chg (Chg.of_below hb3 []) (by simp)); clear hu3 hb3 hs3)
      | (go_at_call 25; refine (hE _ _ _ _ HS3.out HX3.out).mono ?_; rintro e w4 ⟨rfl, hb4⟩; have HB4 := Lib.hid (bthen' HU3.out hb4); clear hb4)
      | (go_at_call 18; refine (hAw _).mono ?_; rintro e w5 ⟨rfl, hb5⟩; have HB5 := Lib.hid (bthen' HB4.out hb5); clear hb5)
      | fail)
    all_goals
      go_wp2
      go_ret
      exact ⟨rfl, HB5.out⟩
  · go_wp2_with (first
      | (go_at_call 19; refine h1.mono ?_; rintro e w1 ⟨rfl, hl, hbl, hlt⟩; have HL := Lib.hid (OwnLog.new hl hbl); clear hl hbl h1)
      | (go_at_call 20; refine (hNu _ _).mono ?_; rintro e wn ⟨rfl, rfl⟩)
      | fail)
    have hA := add_any (w1.alloc (.cells #[.int .i64 (1 + (a : Int)), .int .i64 1, .int .i64 1, .int .i64 1, .int .i64 (1 + (b : Int)), .int .i64 1, .int .i64 2, .int .i64 1, .int .i64 (1 + (c : Int)), .int .i64 1, .int .i64 3, .int .i64 1] 42)) w.heap.size none ⟨100, [], 0⟩ (some ⟨w1.heap.size, 0, none⟩) 3 (ordE a b c) (HL.out.log.alloc _) (by decide) (by decide) (by decide) (by simp [ordE])
      (rdE_new w1 _ _ _ _ (by simp [ordE, flatE, encE]) HL.out.ne)
    rw [HADD.out] at hA
    go_wp2_with (first
      | (go_at_call 21; refine hA.mono ?_; rintro e w2 ⟨rfl, h2, hl2, hc2, ho2⟩; have HO := Lib.hid ((HL.out.alloc _).turned hl2 hc2 ho2); have HX := Lib.hid ((Blk.new w1 42 #[.int .i64 (1 + (a : Int)), .int .i64 1, .int .i64 1, .int .i64 1, .int .i64 (1 + (b : Int)), .int .i64 1, .int .i64 2, .int .i64 1, .int .i64 (1 + (c : Int)), .int .i64 1, .int .i64 3, .int .i64 1]).chg hc2 HL.out.ne); clear hA hl2 hc2 ho2)
      | fail)
    have hAl := fun W q => allO (w := w) (wr := W) (g := w.heap.size) (h := h2) (x := ⟨100, (ordE a b c).take 1, 0⟩) q (by rw [HLEN.out]; decide) 1 HLEN.out
    have hE : ∀ W A p hh, Sl W 42 4 (.slice A 1 p) hh 1 (flatE ((ordE a b c).take 1)) → Blk W w1.heap.size 42 #[.int .i64 (1 + (a : Int)), .int .i64 1, .int .i64 1, .int .i64 1, .int .i64 (1 + (b : Int)), .int .i64 1, .int .i64 2, .int .i64 1, .int .i64 (1 + (c : Int)), .int .i64 1, .int .i64 3, .int .i64 1] →
        Calls Try.prog 25 #[.slice A 1 p, .slice (some ⟨w1.heap.size, 0, none⟩) 1 3] W fun e w' => e = .returned (.bool true) ∧ Below W.heap.size W w' := fun W A p hh hs hX => by
      have h := entries_any W (.slice A 1 p) (.slice (some ⟨w1.heap.size, 0, none⟩) 1 3) ((ordE a b c).take 1) ((ordE a b c).take 1) (by rw [HLEN.out]; exact hs.reads [] (by simp)) (by rw [HLEN.out]; exact rds_block hX (by rw [flatE_length, HLEN.out]) HFLAT.out (by decide) (by decide))
      rw [decide_eq_true rfl] at h
      exact h
    go_region_with (first
      | (go_at_call 26; refine (hAl _ (HO.out.heap (by rfl) (by rfl) (by rfl) (by rfl))).mono ?_; rintro e w3 ⟨A3, p3, hh3, rfl, hu3, hb3, hs3, _⟩; have HU3 := Lib.hid hu3.below; have HS3 := Lib.hid hs3; have HX3 := Lib.hid ((HX.out.heap (by rfl)).chg (Chg.of_below hb3 []) (by simp)); clear hu3 hb3 hs3)
      | (go_at_call 25; refine (hE _ _ _ _ HS3.out HX3.out).mono ?_; rintro e w4 ⟨rfl, hb4⟩; have HB4 := Lib.hid (bthen' HU3.out hb4); clear hb4)
      | (go_at_call 18; refine (hAw _).mono ?_; rintro e w5 ⟨rfl, hb5⟩; have HB5 := Lib.hid (bthen' HB4.out hb5); clear hb5)
      | fail)
    all_goals
      go_wp2
      go_ret
      exact ⟨rfl, HB5.out⟩
  · go_wp2_with (first
      | (go_at_call 19; refine h1.mono ?_; rintro e w1 ⟨rfl, hl, hbl, hlt⟩; have HL := Lib.hid (OwnLog.new hl hbl); clear hl hbl h1)
      | (go_at_call 20; refine (hNu _ _).mono ?_; rintro e wn ⟨rfl, rfl⟩)
      | fail)
    have hA := add_any (w1.alloc (.cells #[.int .i64 (1 + (a : Int)), .int .i64 1, .int .i64 1, .int .i64 1, .int .i64 (1 + (b : Int)), .int .i64 1, .int .i64 2, .int .i64 1, .int .i64 (1 + (c : Int)), .int .i64 1, .int .i64 3, .int .i64 1] 42)) w.heap.size none ⟨100, [], 0⟩ (some ⟨w1.heap.size, 0, none⟩) 3 (ordE a b c) (HL.out.log.alloc _) (by decide) (by decide) (by decide) (by simp [ordE])
      (rdE_new w1 _ _ _ _ (by simp [ordE, flatE, encE]) HL.out.ne)
    rw [HADD.out] at hA
    go_wp2_with (first
      | (go_at_call 21; refine hA.mono ?_; rintro e w2 ⟨rfl, h2, hl2, hc2, ho2⟩; have HO := Lib.hid ((HL.out.alloc _).turned hl2 hc2 ho2); have HX := Lib.hid ((Blk.new w1 42 #[.int .i64 (1 + (a : Int)), .int .i64 1, .int .i64 1, .int .i64 1, .int .i64 (1 + (b : Int)), .int .i64 1, .int .i64 2, .int .i64 1, .int .i64 (1 + (c : Int)), .int .i64 1, .int .i64 3, .int .i64 1]).chg hc2 HL.out.ne); clear hA hl2 hc2 ho2)
      | fail)
    have hAl := fun W q => allO (w := w) (wr := W) (g := w.heap.size) (h := h2) (x := ⟨100, (ordE a b c).take 2, 0⟩) q (by rw [HLEN.out]; decide) 2 HLEN.out
    have hE : ∀ W A p hh, Sl W 42 4 (.slice A 2 p) hh 2 (flatE ((ordE a b c).take 2)) → Blk W w1.heap.size 42 #[.int .i64 (1 + (a : Int)), .int .i64 1, .int .i64 1, .int .i64 1, .int .i64 (1 + (b : Int)), .int .i64 1, .int .i64 2, .int .i64 1, .int .i64 (1 + (c : Int)), .int .i64 1, .int .i64 3, .int .i64 1] →
        Calls Try.prog 25 #[.slice A 2 p, .slice (some ⟨w1.heap.size, 0, none⟩) 2 3] W fun e w' => e = .returned (.bool true) ∧ Below W.heap.size W w' := fun W A p hh hs hX => by
      have h := entries_any W (.slice A 2 p) (.slice (some ⟨w1.heap.size, 0, none⟩) 2 3) ((ordE a b c).take 2) ((ordE a b c).take 2) (by rw [HLEN.out]; exact hs.reads [] (by simp)) (by rw [HLEN.out]; exact rds_block hX (by rw [flatE_length, HLEN.out]) HFLAT.out (by decide) (by decide))
      rw [decide_eq_true rfl] at h
      exact h
    go_region_with (first
      | (go_at_call 26; refine (hAl _ (HO.out.heap (by rfl) (by rfl) (by rfl) (by rfl))).mono ?_; rintro e w3 ⟨A3, p3, hh3, rfl, hu3, hb3, hs3, _⟩; have HU3 := Lib.hid hu3.below; have HS3 := Lib.hid hs3; have HX3 := Lib.hid ((HX.out.heap (by rfl)).chg (Chg.of_below hb3 []) (by simp)); clear hu3 hb3 hs3)
      | (go_at_call 25; refine (hE _ _ _ _ HS3.out HX3.out).mono ?_; rintro e w4 ⟨rfl, hb4⟩; have HB4 := Lib.hid (bthen' HU3.out hb4); clear hb4)
      | (go_at_call 18; refine (hAw _).mono ?_; rintro e w5 ⟨rfl, hb5⟩; have HB5 := Lib.hid (bthen' HB4.out hb5); clear hb5)
      | fail)
    all_goals
      go_wp2
      go_ret
      exact ⟨rfl, HB5.out⟩
  · go_wp2_with (first
      | (go_at_call 19; refine h1.mono ?_; rintro e w1 ⟨rfl, hl, hbl, hlt⟩; have HL := Lib.hid (OwnLog.new hl hbl); clear hl hbl h1)
      | (go_at_call 20; refine (hNu _ _).mono ?_; rintro e wn ⟨rfl, rfl⟩)
      | fail)
    have hA := add_any (w1.alloc (.cells #[.int .i64 (1 + (a : Int)), .int .i64 1, .int .i64 1, .int .i64 1, .int .i64 (1 + (b : Int)), .int .i64 1, .int .i64 2, .int .i64 1, .int .i64 (1 + (c : Int)), .int .i64 1, .int .i64 3, .int .i64 1] 42)) w.heap.size none ⟨100, [], 0⟩ (some ⟨w1.heap.size, 0, none⟩) 3 (ordE a b c) (HL.out.log.alloc _) (by decide) (by decide) (by decide) (by simp [ordE])
      (rdE_new w1 _ _ _ _ (by simp [ordE, flatE, encE]) HL.out.ne)
    rw [HADD.out] at hA
    go_wp2_with (first
      | (go_at_call 21; refine hA.mono ?_; rintro e w2 ⟨rfl, h2, hl2, hc2, ho2⟩; have HO := Lib.hid ((HL.out.alloc _).turned hl2 hc2 ho2); have HX := Lib.hid ((Blk.new w1 42 #[.int .i64 (1 + (a : Int)), .int .i64 1, .int .i64 1, .int .i64 1, .int .i64 (1 + (b : Int)), .int .i64 1, .int .i64 2, .int .i64 1, .int .i64 (1 + (c : Int)), .int .i64 1, .int .i64 3, .int .i64 1]).chg hc2 HL.out.ne); clear hA hl2 hc2 ho2)
      | fail)
    have hAl := fun W q => allO (w := w) (wr := W) (g := w.heap.size) (h := h2) (x := ⟨100, (ordE a b c).take 3, 0⟩) q (by rw [HLEN.out]; decide) 3 HLEN.out
    have hE : ∀ W A p hh, Sl W 42 4 (.slice A 3 p) hh 3 (flatE ((ordE a b c).take 3)) → Blk W w1.heap.size 42 #[.int .i64 (1 + (a : Int)), .int .i64 1, .int .i64 1, .int .i64 1, .int .i64 (1 + (b : Int)), .int .i64 1, .int .i64 2, .int .i64 1, .int .i64 (1 + (c : Int)), .int .i64 1, .int .i64 3, .int .i64 1] →
        Calls Try.prog 25 #[.slice A 3 p, .slice (some ⟨w1.heap.size, 0, none⟩) 3 3] W fun e w' => e = .returned (.bool true) ∧ Below W.heap.size W w' := fun W A p hh hs hX => by
      have h := entries_any W (.slice A 3 p) (.slice (some ⟨w1.heap.size, 0, none⟩) 3 3) ((ordE a b c).take 3) ((ordE a b c).take 3) (by rw [HLEN.out]; exact hs.reads [] (by simp)) (by rw [HLEN.out]; exact rds_block hX (by rw [flatE_length, HLEN.out]) HFLAT.out (by decide) (by decide))
      rw [decide_eq_true rfl] at h
      exact h
    go_region_with (first
      | (go_at_call 26; refine (hAl _ (HO.out.heap (by rfl) (by rfl) (by rfl) (by rfl))).mono ?_; rintro e w3 ⟨A3, p3, hh3, rfl, hu3, hb3, hs3, _⟩; have HU3 := Lib.hid hu3.below; have HS3 := Lib.hid hs3; have HX3 := Lib.hid ((HX.out.heap (by rfl)).chg (Chg.of_below hb3 []) (by simp)); clear hu3 hb3 hs3)
      | (go_at_call 25; refine (hE _ _ _ _ HS3.out HX3.out).mono ?_; rintro e w4 ⟨rfl, hb4⟩; have HB4 := Lib.hid (bthen' HU3.out hb4); clear hb4)
      | (go_at_call 18; refine (hAw _).mono ?_; rintro e w5 ⟨rfl, hb5⟩; have HB5 := Lib.hid (bthen' HB4.out hb5); clear hb5)
      | fail)
    all_goals
      go_wp2
      go_ret
      exact ⟨rfl, HB5.out⟩

end Go.Proofs.Ytkgpflobbmagaaa
