/-
  The walks of pillarboxlaw3.Num and of the log laws' own example.
-/
import Derived.Test.YtkgpflobbmagaaaLogSince
namespace Go.Proofs.Ytkgpflobbmagaaa
open Go.RowKit

theorem num_any (w : World) (n : Int) : Calls Try.prog 20 #[.int .i64 n] w fun e w' => e = .returned (.int .i64 n) ∧ w = w' := by
  go_enter Try.func20, Try.ntmps20
  go_wp2
  go_ret
  exact ⟨rfl, rfl⟩

/-- A list of entries that has just been laid reads so. -/
theorem rdE_new (w : World) (e : List E4) (cs : Array Value) (t : TypeId) (S : List Nat) (hcs : cs.toList = flatE e) (hS : w.heap.size ∉ S) : RdE (w.alloc (.cells cs t)) (some ⟨w.heap.size, 0, none⟩) S e := by
  intro _
  refine ⟨w.heap.size, 0, rfl, by simp, hS, fun j hj => ?_⟩
  have h1 := (Blk.new w t cs).cell j
  rw [Nat.zero_add, h1, ← hcs]
  simp

def exLog : LogV := ⟨10, [⟨2, 2, 1, 1⟩, ⟨3, 2, 1, 3⟩, ⟨3, 2, 2, 1⟩], 0⟩
theorem exLog_add : LogV.add ⟨10, [], 0⟩ [⟨2, 2, 1, 1⟩, ⟨3, 2, 1, 3⟩, ⟨3, 2, 2, 1⟩] = exLog := by
  simp [LogV.add, addLoop, exLog]
theorem exLog_since : exLog.since 2 1 3 0 = ⟨⟨[2], [], []⟩, 3, false, 0⟩ := by decide

theorem LogAt.alloc {w : World} {g : Nat} {h : Option Nat} {x : LogV} (hl : LogAt w g h x) (o : Obj) : LogAt (w.alloc o) g h x := hl.chg ((Chg.refl [] w).alloc o) (by simp) (by simp)

/-- What a fresh log's own blocks are: all behind what was there. -/
theorem own_below {w w1 w2 : World} {g B : Nat} {h : Option Nat} (hb : Below B w w1) (hc : Chg (g :: h.toList) w1 w2) (hB : B ≤ w1.heap.size) (hg : B ≤ g) (hh : ∀ x, h = some x → B ≤ x) : Below B w w2 :=
  hb.trans (hc.below hB fun k hk => by
    simp at hk
    rcases hk with rfl | hk
    · exact hg
    · exact hh k hk)

set_option maxRecDepth 100000 in
set_option maxHeartbeats 1000000 in
theorem awake17_any (w : World) : Calls Try.prog 18 #[] w fun e w' => e = .returned (.bool true) ∧ Below w.heap.size w w' := by
  have h1 := new_ok 10 w (by decide)
  have hN := fun W n => num_any W n
  go_enter Try.func18, Try.ntmps18
  go_wp2_with (first
    | (go_at_call 19; refine h1.mono ?_; rintro e w1 ⟨rfl, hl, hb, hlt⟩; have HL := Lib.hid hl; have HB := Lib.hid hb; clear hl hb h1)
    | (go_at_call 20; refine (hN _ _).mono ?_; rintro e wn ⟨rfl, rfl⟩)
    | fail)
  have hA := add_any (w1.alloc (.cells #[.int .i64 2, .int .i64 2, .int .i64 1, .int .i64 1, .int .i64 3, .int .i64 2, .int .i64 1, .int .i64 3, .int .i64 3, .int .i64 2, .int .i64 2, .int .i64 1] 42)) w.heap.size none ⟨10, [], 0⟩ (some ⟨w1.heap.size, 0, none⟩) 3 [⟨2, 2, 1, 1⟩, ⟨3, 2, 1, 3⟩, ⟨3, 2, 2, 1⟩]
    (HL.out.alloc _) (by decide) (by decide) (by decide) (by decide) (rdE_new w1 _ _ _ _ rfl (by simp; omega))
  rw [exLog_add] at hA
  go_wp2_with (first
    | (go_at_call 21; refine hA.mono ?_; rintro e w2 ⟨rfl, h2, hl2, hc2, ho2⟩; have HL2 := Lib.hid hl2; have HC2 := Lib.hid hc2; have HO2 := Lib.hid ho2; clear hA hl2 hc2 ho2)
    | fail)
  have hS := since_any w2 w.heap.size h2 exLog 2 1 3 0 HL2.out (by decide)
  rw [exLog_since] at hS
  have hb2 : Below w.heap.size w w2 := own_below (HB.out.alloc HB.out.size _) HC2.out (by simp; omega) (Nat.le_refl _) (by simp)
  have HB2 := Lib.hid hb2
  clear hb2 HB HL HC2 HO2
  go_wp2_with (first
    | (go_at_call 22; refine hS.mono ?_; rintro e w3 ⟨c, rfl, hch, hb3⟩; obtain ⟨A0, A1, A2, p0, p1, p2, cv, hh2, rfl, k0, k1, k2, hsl, hown⟩ := hch.form; have hs0 := hsl 0 (by decide); rw [k0] at hs0; obtain ⟨b0, off0, cc, _, hva, _, _, hbl, hat⟩ := hs0.at_ (by decide); injection hva with hva1 hva2 hva3; subst hva1; clear hva2; have d0 : w3.cell? ⟨b0, off0, none⟩ = some (.int .i64 2) := (hat 0 (by decide)).1; have HB3 := Lib.hid (HB2.out.trans (hb3.mono HB2.out.size)); clear hb3 hch k0 k1 k2 hsl hown hs0 hat)
    | (go_at_call 20; refine (hN _ _).mono ?_; rintro e wn ⟨rfl, rfl⟩)
    | fail)
  go_ret
  exact ⟨rfl, HB3.out.alloc HB3.out.size _⟩

end Go.Proofs.Ytkgpflobbmagaaa
