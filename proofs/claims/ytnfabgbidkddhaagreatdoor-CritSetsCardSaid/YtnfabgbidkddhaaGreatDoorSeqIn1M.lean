/-
  The walk of seq.In.
-/
import Derived.Test.YtnfabgbidkddhaaGreatDoorSeqInM
namespace Go.Proofs.YtnfabgbidkddhaaGreatDoor
open Go.Shelf Go.RowKit Go.Lib
attribute [local go_sem ↓] Go.wp_at_zero Go.wp_at_succ

set_option maxRecDepth 100000 in
theorem idx0_any (A : Option Addr) (c : Nat) (fv : Value) (w : World) :
    Calls Tryz.prog 96 #[.slice A 0 c, fv] w fun e w' => e = .returned (.int .i64 (-1)) ∧ w = w' := by
  go_enter Tryz.func96, Tryz.ntmps96
  go_wp2
  refine wp_loop_rounds 1 ?_
  rw [rounds_succ]
  go_wp2
  go_ret
  exact ⟨rfl, rfl⟩
set_option maxRecDepth 100000 in
theorem contains0_any (A : Option Addr) (c : Nat) (fv : Value) (w : World) :
    Calls Tryz.prog 61 #[.slice A 0 c, fv] w fun e w' => e = .returned (.bool false) ∧ w = w' := by
  have hi := idx0_any A c fv w
  go_enter Tryz.func61, Tryz.ntmps61
  go_wp2_with (first
    | (go_at_call 96; refine hi.mono ?_; rintro e w2 ⟨rfl, rfl⟩)
    | fail)
  go_ret
  exact ⟨rfl, rfl⟩

set_option maxRecDepth 100000 in
set_option maxHeartbeats 1000000 in
theorem in_any (w : World) (v : Value) (n : Nat) (l : List Rg) (x : Int) (hn : l.length = n) (hr : RdS w [] 2 v n (flatR l)) :
    Calls Tryz.prog 64 #[v, .int .i64 x] w fun e w' => e = .returned (.bool (inL l x)) ∧ Below w.heap.size w w' := by
  rcases Nat.eq_zero_or_pos n with h0 | h0
  · subst h0
    obtain rfl : l = [] := List.eq_nil_of_length_eq_zero hn
    obtain ⟨A, cap, rfl, _, _⟩ := hr.form
    have hc := fun fv W => contains0_any A cap fv W
    clear hr hn
    go_enter Tryz.func64, Tryz.ntmps64
    go_wp2_with (first
      | (go_at_call 61; refine (hc _ _).mono ?_; rintro e w2 ⟨rfl, rfl⟩)
      | fail)
    go_ret
    exact ⟨rfl, (Below.refl _ _).alloc (Nat.le_refl _) _⟩
  · obtain ⟨b, off, cap, rfl, hnc, hcm, hlt, _, hat⟩ := hr.at_ h0
    have hw1 : (w.alloc (.cells #[.int .i64 x] 3)).cell? ⟨w.heap.size, 0, none⟩ = some (.int .i64 x) := (World.cell?_alloc_at _ _ _ _ rfl).trans rfl
    have hp := inPred_any x w.heap.size _ hw1
    have eg : ∀ args W, (callFunc 99 args).run Tryz.prog W = .ok (.enter 99 args) W := enters_of Tryz.func99 (by kernel_rfl) rfl
    have hc := AnyQ.slices_ContainsFunc Tryz.containsR 2 Tryz.isAgg75 Tryz.sizeOf75 encR (fun _ => rfl) (inR x) 99 #[.pointer (some ⟨w.heap.size, 0, none⟩)] eg b off n cap l (w.alloc (.cells #[.int .i64 x] 3)) hp (by omega) (by unfold maxLen at hcm; omega) (by simp; omega)
      (fun j hj i u hu => by
        have h2 : i < 2 := by
          have := (List.getElem?_eq_some_iff.1 hu).1
          simpa [encR] using this
        rw [World.cell?_alloc_lt w _ _ hlt, show off + j * 2 + i = off + (j * 2 + i) by omega, hat _ (by omega)]
        have h3 := flatR_at l j hj
        rw [getElem!_pos l j hj] at hu
        match i, h2 with
        | 0, _ => rw [Nat.add_zero, h3.1, ← hu]; rfl
        | 1, _ => rw [h3.2, ← hu]; rfl)
    have hall : (l.take n).any (inR x) = inL l x := by
      rw [List.take_of_length_le (by omega)]
      rfl
    rw [hall] at hc
    have HC : Hid (∀ (e : Ending) w', Below (w.alloc (.cells #[.int .i64 x] 3)).heap.size (w.alloc (.cells #[.int .i64 x] 3)) w' → Below w.heap.size w w') := Lib.hid fun _ w' hb => ((Below.refl w.heap.size w).alloc (Nat.le_refl _) (.cells #[.int .i64 x] 3)).trans (hb.mono (by simp))
    generalize inL l x = r at hc
    clear hat hr hp eg hall hw1
    go_enter Tryz.func64, Tryz.ntmps64
    go_wp2_with (first
      | (go_at_call 61; refine hc.mono ?_; rintro e w2 ⟨rfl, hb⟩; have HB := Lib.hid (HC.out (.returned (.bool r)) w2 hb); clear hb hc HC)
      | fail)
    go_ret
    exact ⟨rfl, HB.out⟩

end Go.Proofs.YtnfabgbidkddhaaGreatDoor
