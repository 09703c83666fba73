/-
  The walk of the store laws' own example; over whatever Append's contract says (AppendOk).
-/
import Derived.Test.YtmbibhphpjmboaaGreatDoorBoxesW
import Derived.Test.YtmbibhphpjmboaaGreatDoorStoreEx
import Derived.Test.YtmbibhphpjmboaaGreatDoorAppend
namespace Go.Proofs.YtmbibhphpjmboaaGreatDoor
open Go.Shelf Go.RowKit
attribute [local go_sem ↓] Go.wp_at_zero Go.wp_at_succ

def AppendOk : Prop := ∀ (w : World) (g : Nat) (q : Lies) (x : Acc) (is : List Int) (vb : Value) (Sb : List Nat) (ks : Texts) (vk : Value) (Sk : List Nat) (at_ : Int) (t : List UInt8), AppIn w g q x is vb Sb ks vk Sk t →
  Calls Tryz.prog 19 #[.pointer (some ⟨g, 0, none⟩), vb, vk, .int .i64 at_, .string ⟨t.toArray⟩] w (AppOut w g q (appendP headF x is ks at_ t))

theorem keysF_nil : keysF [] = ([], 0) := by simp [keysF, sortB, Lib.compact, Lib.compactUpTo]
/-- Mailbox 1 alone, just laid in a block of its own. -/
theorem one_sl (w : World) : Sl (w.alloc (.cells #[.int .i64 1] 3)) 3 1 (.slice (some ⟨w.heap.size, 0, none⟩) 1 1) (some w.heap.size) 1 ([(1 : Int)].map encI) :=
  ⟨by simp, .inr ⟨w.heap.size, 0, 1, _, rfl, rfl, Blk.new _ _ _, Nat.le_refl _, by unfold maxLen; omega, by simp, by simp⟩⟩
theorem one_in {w : World} {g : Nat} {q : Lies} {x : Acc} (h : StoreAt w g q x) (hf : Fit x) (t : List UInt8) (ht : t.length ≤ 1099511627776) : AppIn (w.alloc (.cells #[.int .i64 1] 3)) g q x [1] (.slice (some ⟨w.heap.size, 0, none⟩) 1 1) [] [] (.slice none 0 0) [] t :=
  ⟨h.alloc _, hf, (one_sl w).reads [] (by simp), by decide, ⟨by simp, .inl ⟨rfl, rfl⟩⟩, by decide, fun s hs => by simp at hs, ht⟩

def exB : BoxP := ⟨1, inboxT, 0, 1, 2, 2⟩
theorem exA : ∃ xA : Acc, appendP headF (newP (cfgN 1000 100 1048576 1073741824 1073741824 10000 200)) [1] [] 0 [97] = (xA, 1, 0) ∧ xA.clock = 2 ∧ xA.boxes = [exB] := by
  have h := appendP_one headF (newP (cfgN 1000 100 1048576 1073741824 1073741824 10000 200)) ⟨1, inboxT, 0, 1, 1, 1⟩ rfl rfl [] (by rw [keysF_nil]) 0 (by decide) (by decide) [97] (by decide) (by decide) (by decide) (by decide)
  exact ⟨_, h, rfl, rfl⟩

set_option maxRecDepth 100000 in
set_option maxHeartbeats 2000000 in
theorem awake_any (happ : AppendOk) (w : World) : Calls Tryz.prog 15 #[] w fun e w' => e = .returned (.bool true) ∧ Below w.heap.size w w' := by
  have hW := wide_any w
  have hN := fun W => newA_any 1000 100 1048576 1073741824 1073741824 10000 200 (by unfold lim; omega) (by unfold lim; omega) (by unfold lim; omega) (by unfold lim; omega) (by unfold lim; omega) (by unfold lim; omega) (by unfold lim; omega) W
  have hNu := fun W n => num_any W n
  have hfit : Fit (newP (cfgN 1000 100 1048576 1073741824 1073741824 10000 200)) := newP_fit wideP_ok
  obtain ⟨xA, hA, hAc, hAb⟩ := exA
  have HAPP := Lib.hid happ
  have HFIT := Lib.hid hfit
  have HA := Lib.hid hA
  have HAC := Lib.hid hAc
  have HAB := Lib.hid hAb
  clear happ hfit hA hAc hAb
  go_enter Tryz.func15, Tryz.ntmps15
  go_wp2_with (first
    | (go_at_call 17; refine hW.mono ?_; rintro e w1 ⟨rfl, hb1⟩; have HB1 := Lib.hid hb1; clear hW hb1)
    | (go_at_call 16; refine (hN _).mono ?_; rintro e w2 ⟨g, q, rfl, ho⟩; have hap := HAPP.out _ g q _ [1] _ [] [] _ [] 0 [97] (one_in ho.at_ HFIT.out [97] (by decide)); rw [HA.out] at hap; have HO := Lib.hid ho; clear hN ho)
    | (go_at_call 18; refine (hNu _ _).mono ?_; rintro e wn ⟨rfl, rfl⟩)
    | (go_at_call 19; refine hap.mono ?_; rintro e w4 ⟨rfl, q4, ht4⟩; have ho4 := (HO.out.later (below_alloc1 _ _)).turned ht4; have hcl := clock_any g xA.clock w4 ho4.at_.cell9; rw [HAC.out] at hcl; have hb4 := fun W (hb : Below w4.heap.size w4 W) => boxes_any W g q4 xA (ho4.at_.later hb) (by rw [HAB.out]; decide); rw [HAB.out] at hb4; have HO4 := Lib.hid ho4; have HB4 := Lib.hid hb4; have hbx1 := hb4 w4 (Below.refl _ _); clear hap ht4 ho4 hb4)
    | (go_at_call 26; refine hcl.mono ?_; rintro e wn ⟨rfl, rfl⟩; clear hcl)
    | (go_at_call 25; (with_reducible refine hbx1.mono ?_); rintro e w6 ⟨v6, h6, rfl, hs6, _, hb6⟩; obtain ⟨A6, c6, rfl, _, _⟩ := hs6.form; have hbx2 := HB4.out w6 hb6; have HB6 := Lib.hid hb6; clear hbx1 hs6 hb6)
    | (go_at_call 25; (with_reducible refine hbx2.mono ?_); rintro e w7 ⟨v7, h7, rfl, hs7, _, hb7⟩; obtain ⟨b7, o7, c7, _, hv7, _, _, _, hat7⟩ := hs7.at_ (by decide); subst hv7; have d4 : w7.cell? ⟨b7, o7 + 4, none⟩ = some (.int .i64 2) := (hat7 4 (by decide)).1; have HB7 := Lib.hid hb7; clear hbx2 hs7 hb7 hat7)
    | fail)
  go_ret
  exact ⟨rfl, below_then HB1.out (below_then HO4.out.below (below_then HB6.out HB7.out))⟩

end Go.Proofs.YtmbibhphpjmboaaGreatDoor
