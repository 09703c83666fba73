/-
  The walk of store.New at a config of the laws: user 'u', pass 'p', every limit from 1 to 2147483647.
-/
import Derived.Test.YtmbibhphpjmboaaGreatDoorClock
import Derived.Test.YtmbibhphpjmboaaGreatDoorAtom
import Derived.Test.YtmbibhphpjmboaaGreatDoorWanted
namespace Go.Proofs.YtmbibhphpjmboaaGreatDoor
open Go.Shelf Go.RowKit Go.Lib
attribute [local go_sem ↓] Go.wp_at_zero Go.wp_at_succ

theorem atomStore_any (g o : Nat) (x y : Int) (w : World) (hc : w.cell? ⟨g, o, none⟩ = some (.int .i64 x)) (hf : w.frozen? ⟨g, o, none⟩ = false) :
    Calls Tryz.prog 50 #[.pointer (some ⟨g, o, none⟩), .int .i64 y] w fun e w' => e = .returned (.tuple #[]) ∧ w' = w.setCell ⟨g, o, none⟩ (.int .i64 y) := by
  have h1 := run_call_store (P := Tryz.prog) (f := 107) Tryz.func107 rfl rfl rfl rfl (a := ⟨g, o, none⟩) (k := .i64) (y := y) (u := .int .i64 x) (w := w) hc hf
  go_enter Tryz.func50, Tryz.ntmps50
  go_wp2
  go_end0
  exact ⟨rfl, rfl⟩

theorem atomU_any (w : World) : Calls Tryz.prog 48 #[.string ⟨#[117]⟩] w fun e w' => e = .returned (.bool true) ∧ w = w' := by
  have h := atom_any ⟨#[117]⟩ w (by decide)
  rw [show atomL (⟨#[117]⟩ : ByteArray).data.toList = true from by decide] at h
  exact h
theorem atomP_any (w : World) : Calls Tryz.prog 48 #[.string ⟨#[112]⟩] w fun e w' => e = .returned (.bool true) ∧ w = w' := by
  have h := atom_any ⟨#[112]⟩ w (by decide)
  rw [show atomL (⟨#[112]⟩ : ByteArray).data.toList = true from by decide] at h
  exact h

theorem blk_new2 (w : World) (o : Obj) (t : TypeId) (cs : Array Value) : Blk ((w.alloc o).alloc (.cells cs t)) (w.heap.size + 1) t cs := by
  have h := Blk.new (w.alloc o) t cs
  rw [show (w.alloc o).heap.size = w.heap.size + 1 from by simp] at h
  exact h
def cfgN (m1 m2 m3 m4 m5 m6 m7 : Int) : CfgP := ⟨[117], [112], m1, m2, m3, m4, m5, m6, m7⟩
def lim (m : Int) : Prop := 1 ≤ m ∧ m ≤ 2147483647

set_option maxRecDepth 100000 in
set_option maxHeartbeats 2000000 in
theorem newA_any (m1 m2 m3 m4 m5 m6 m7 : Int) (h1 : lim m1) (h2 : lim m2) (h3 : lim m3) (h4 : lim m4) (h5 : lim m5) (h6 : lim m6) (h7 : lim m7) (w : World) :
    Calls Tryz.prog 16 #[.agg #[.string ⟨#[117]⟩, .string ⟨#[112]⟩, .int .i64 m1, .int .i64 m2, .int .i64 m3, .int .i64 m4, .int .i64 m5, .int .i64 m6, .int .i64 m7]] w fun e w' => ∃ g q, e = .returned (.tuple #[.pointer (some ⟨g, 0, none⟩), .int .i64 0]) ∧ OwnStore w w' g q (newP (cfgN m1 m2 m3 m4 m5 m6 m7)) := by
  have hU := fun W => atomU_any W
  have hP := fun W => atomP_any W
  have hL := fun W => new_ok m6 W (by unfold lim at h6; omega)
  have hcells : ∀ k, k < 7 → ∃ m, lim m ∧ ((w.alloc (.cells #[.string ⟨#[117]⟩, .string ⟨#[112]⟩, .int .i64 m1, .int .i64 m2, .int .i64 m3, .int .i64 m4, .int .i64 m5, .int .i64 m6, .int .i64 m7] 29)).alloc (.cells #[.int .i64 m1, .int .i64 m2, .int .i64 m3, .int .i64 m4, .int .i64 m5, .int .i64 m6, .int .i64 m7] 3)).cell? ⟨w.heap.size + 1, k, none⟩ = some (.int .i64 m) := by
    intro k hk
    have hB := Blk.new (w.alloc (.cells #[.string ⟨#[117]⟩, .string ⟨#[112]⟩, .int .i64 m1, .int .i64 m2, .int .i64 m3, .int .i64 m4, .int .i64 m5, .int .i64 m6, .int .i64 m7] 29)) 3 #[.int .i64 m1, .int .i64 m2, .int .i64 m3, .int .i64 m4, .int .i64 m5, .int .i64 m6, .int .i64 m7]
    have hc := hB.cell k
    rw [show (w.alloc (.cells #[.string ⟨#[117]⟩, .string ⟨#[112]⟩, .int .i64 m1, .int .i64 m2, .int .i64 m3, .int .i64 m4, .int .i64 m5, .int .i64 m6, .int .i64 m7] 29)).heap.size = w.heap.size + 1 from by simp] at hc
    rw [hc]
    rcases k with _ | _ | _ | _ | _ | _ | _ | k
    · exact ⟨m1, h1, rfl⟩
    · exact ⟨m2, h2, rfl⟩
    · exact ⟨m3, h3, rfl⟩
    · exact ⟨m4, h4, rfl⟩
    · exact ⟨m5, h5, rfl⟩
    · exact ⟨m6, h6, rfl⟩
    · exact ⟨m7, h7, rfl⟩
    · omega
  have HC := Lib.hid hcells
  clear hcells h1 h2 h3 h4 h5 h6 h7
  go_enter Tryz.func16, Tryz.ntmps16
  go_wp2_with (first
    | (go_at_call 48; (with_reducible refine (hU _).mono ?_); rintro e w1 ⟨rfl, rfl⟩; clear hU)
    | (go_at_call 48; (with_reducible refine (hP _).mono ?_); rintro e w1 ⟨rfl, rfl⟩; clear hP)
    | fail)
  go_loop [35] (fun i => ∃ k : Nat, k ≤ 7 ∧ i = .int .i64 k) (fun i => 7 - (intOf i).toNat)
  case atStart => exact ⟨0, Nat.zero_le _, rfl⟩
  case round =>
    obtain ⟨k, hk, rfl⟩ := hrel
    by_cases hlt : k < 7
    · obtain ⟨m, ⟨hm1, hm2⟩, hc⟩ := HC.out k hlt
      have hk1 : (k : Int) < 7 := by omega
      have n1 : ¬ m < 1 := by omega
      have n2 : ¬ 2147483647 < m := by omega
      go_wp2_with fail
      refine ⟨?_, by simp [intOf]; omega⟩
      first | exact ⟨k + 1, by omega, by go_num⟩ | ((repeat apply Exists.intro); exact ⟨⟨k + 1, by omega, by go_num⟩, rfl⟩)
    · have hk7 : k = 7 := by omega
      subst hk7
      have HA := Lib.hid ((Blk.new w 29 #[.string ⟨#[117]⟩, .string ⟨#[112]⟩, .int .i64 m1, .int .i64 m2, .int .i64 m3, .int .i64 m4, .int .i64 m5, .int .i64 m6, .int .i64 m7]).alloc (.cells #[.int .i64 m1, .int .i64 m2, .int .i64 m3, .int .i64 m4, .int .i64 m5, .int .i64 m6, .int .i64 m7] 3))
      have HB0 := Lib.hid (below_then (below_alloc1 w (.cells #[.string ⟨#[117]⟩, .string ⟨#[112]⟩, .int .i64 m1, .int .i64 m2, .int .i64 m3, .int .i64 m4, .int .i64 m5, .int .i64 m6, .int .i64 m7] 29)) (below_alloc1 _ (.cells #[.int .i64 m1, .int .i64 m2, .int .i64 m3, .int .i64 m4, .int .i64 m5, .int .i64 m6, .int .i64 m7] 3)))
      clear HC
      go_wp2_with (first
        | (go_at_call 49; refine (hL _).mono ?_; rintro e w3 ⟨rfl, hl, hb, hlt3⟩; have hA3 := HA.out.below hb (by simp; omega); have d0 : w3.cell? ⟨w.heap.size, 0, none⟩ = some (.string ⟨#[117]⟩) := hA3.cell 0; have d1 : w3.cell? ⟨w.heap.size, 1, none⟩ = some (.string ⟨#[112]⟩) := hA3.cell 1; have d2 : w3.cell? ⟨w.heap.size, 2, none⟩ = some (.int .i64 m1) := hA3.cell 2; have d3 : w3.cell? ⟨w.heap.size, 3, none⟩ = some (.int .i64 m2) := hA3.cell 3; have d4 : w3.cell? ⟨w.heap.size, 4, none⟩ = some (.int .i64 m3) := hA3.cell 4; have d5 : w3.cell? ⟨w.heap.size, 5, none⟩ = some (.int .i64 m4) := hA3.cell 5; have d6 : w3.cell? ⟨w.heap.size, 6, none⟩ = some (.int .i64 m5) := hA3.cell 6; have d7 : w3.cell? ⟨w.heap.size, 7, none⟩ = some (.int .i64 m6) := hA3.cell 7; have d8 : w3.cell? ⟨w.heap.size, 8, none⟩ = some (.int .i64 m7) := hA3.cell 8; have HB3 := Lib.hid (below_then HB0.out hb); have HL3 := Lib.hid hl; clear hb hl hL hA3)
        | (go_at_call 50; (refine (atomStore_any (w3.heap.size + 1) 9 0 1 _ ((blk_new2 w3 _ _ _).cell 9) ((blk_new2 w3 _ _ _).frozen 9)).mono ?_; rintro e w4 ⟨rfl, rfl⟩))
        | fail)
      go_ret2
      have hl3 := HL3.out
      simp only [World.size_alloc] at hl3
      have hlt4 : w.heap.size + 1 + 1 < w3.heap.size := by simpa using hlt3
      have hsz := HB3.out.size
      refine ⟨w3.heap.size + 1, ⟨w.heap.size + 1 + 1, none, some w3.heap.size, none, .slice (some ⟨w3.heap.size, 0, none⟩) 1 1, .slice none 0 0, []⟩, rfl, ⟨storeAt_new (blk_new2 w3 _ _ _) (hl3.chg (((Chg.refl [] w3).alloc _).alloc _) (by simp) (by simp)) ((Blk.new w3 _ _).alloc _), (HB3.out.alloc hsz _).alloc (by simp; omega) _, fun k hk => ?_⟩⟩
      simp only [Lies.own, Option.toList, List.mem_cons, List.mem_append, List.not_mem_nil, or_false, false_or] at hk
      rcases hk with rfl | rfl | rfl <;> omega

end Go.Proofs.YtmbibhphpjmboaaGreatDoor
