/-
  The walk of law 23's CritReads.
-/
import Derived.Test.YtnfabgbidkddhaaGreatDoorRightsWM
import Derived.Test.YtnfabgbidkddhaaGreatDoorSrchCM
import Derived.Test.YtnfabgbidkddhaaGreatDoorTermsWM
namespace Go.Proofs.YtnfabgbidkddhaaGreatDoor
open Go.RowKit
attribute [local go_sem ↓] Go.wp_at_zero Go.wp_at_succ

set_option maxRecDepth 100000 in
set_option maxHeartbeats 4000000 in
theorem critReads_any (w : World) (v : Value) (ws : List WT) (box : Int) (uv : Value) (us : List Int) (hm : Mx w) (hv : WsAt w v ws) (hsz : szL ws ≤ 1048576) (hu : RdS w [] 1 uv us.length (intC us)) :
    Calls Tryz.prog 3 #[v, .int .i64 box, uv] w fun en w' => en = .returned (.bool true) ∧ Below w.heap.size w w' := by
  have hNu := fun n W => numC_any n W
  have hAw := fun W hm => awake_anyL W hm
  have hMX : ∀ W, Below w.heap.size w W → Mx W := fun W hb => hm.below hb
  obtain ⟨gr, hgr⟩ : ∃ gr, greatP ws 0 = gr := ⟨_, rfl⟩
  have hG : Calls Tryz.prog 8 #[v, .int .i64 0] w fun en w' => en = .returned (.bool gr) ∧ w = w' := by
    rw [← hgr]
    exact great_any (szL ws) ws (Nat.le_refl _) w v 0 (by omega) hv
  have hRi := rise_any w uv us hu
  obtain ⟨f, m, z, hrp⟩ : ∃ f m z, readP ⟨box, us⟩ ws = (f, m, z) := ⟨_, _, _, rfl⟩
  obtain ⟨n, hn⟩ : ∃ n, f.length = n := ⟨_, rfl⟩
  have hR1 : okL ws → ∀ W, Below w.heap.size w W → RiseOk us → Calls Tryz.prog 11 #[v, .int .i64 box, uv] W (RdX W n f m z) := fun hok W hb hr =>
    (critRead_any W v uv ⟨box, us⟩ ws (hv.below hb) hok ⟨hu.below hb, hr.1, hr.2, hm.below hb⟩ (by omega)).mono fun e w' h => h.x (Below.refl _ _) hrp hn
  have hR2 : okL ws → ∀ W, Below w.heap.size w W → RiseOk us → Calls Tryz.prog 12 #[v, .int .i64 box, uv] W (RdX W n f m z) := fun hok W hb hr =>
    (crit22_any W v uv ⟨box, us⟩ ws (hv.below hb) hok ⟨hu.below hb, hr.1, hr.2, hm.below hb⟩ (by omega)).mono fun e w' h => h.x (Below.refl _ _) hrp hn
  obtain ⟨Av, cv, hvf, _, _⟩ := hv.form
  obtain ⟨Au, cu, huf, _, _⟩ := hu.form
  obtain ⟨LN, hLN⟩ : ∃ LN, ws.length = LN := ⟨_, rfl⟩
  obtain ⟨UN, hUN⟩ : ∃ UN, us.length = UN := ⟨_, rfl⟩
  rw [hLN] at hvf
  rw [hUN] at huf
  subst hvf huf
  have HG := Lib.hid hG
  have HRI := Lib.hid hRi
  have HR1 := Lib.hid hR1
  have HR2 := Lib.hid hR2
  have HMX := Lib.hid hMX
  have HGR := Lib.hid hgr
  have HB0 := Lib.hid (Below.refl w.heap.size w)
  have mm : (m == m) = true := by simp
  have zz : (z == z) = true := by simp
  clear hG hRi hR1 hR2 hMX hgr hm hv hu hLN hUN hrp hn
  by_cases hgg : gr = true
  · subst hgg
    go_enter Tryz.func3, Tryz.ntmps3
    go_wp2_with (first
      | (go_at_call 8; refine HG.out.mono ?_; rintro en w2 ⟨rfl, rfl⟩)
      | (go_at_call 10; refine (hAw _ (HMX.out _ HB0.out)).mono ?_; rintro en w3 ⟨rfl, hb3⟩; have HB3 := Lib.hid hb3; clear hb3)
      | fail)
    go_ret
    exact ⟨rfl, HB3.out⟩
  have hgf : gr = false := by simpa using hgg
  subst hgf
  have hok := great_ok HGR.out
  have HOK := Lib.hid hok
  clear hgg hok
  go_enter Tryz.func3, Tryz.ntmps3
  go_wp2_with (first
    | (go_at_call 8; refine HG.out.mono ?_; rintro en w2 ⟨rfl, rfl⟩)
    | (go_at_call 9; refine HRI.out.mono ?_; rintro en w2 ⟨r, rfl, hr, hb2⟩; have HB2 := Lib.hid hb2; have HRR := Lib.hid hr; clear hb2 hr; cases r)
    | (go_at_call 11; (with_reducible refine (HR1.out HOK.out _ HB2.out (HRR.out (by first | rfl | trivial))).mono ?_); rintro en w4 ⟨A4, c4, rfl, hf4, hb4⟩; have HF4 := Lib.hid hf4; have HB4 := Lib.hid (below_then HB2.out hb4); clear hf4 hb4)
    | (go_at_call 12; (with_reducible refine (HR2.out HOK.out _ HB4.out (HRR.out (by first | rfl | trivial))).mono ?_); rintro en w5 ⟨A5, c5, rfl, hf5, hb5⟩; have HF5 := Lib.hid hf5; have HF45 := Lib.hid (HF4.out.below hb5); have HB5 := Lib.hid (below_then HB4.out hb5); clear hf5 hb5)
    | (go_at_call 13; refine (terms_same _ _ _ f HF45.out HF5.out).mono ?_; rintro en w6 ⟨rfl, hb6⟩; have HB6 := Lib.hid (below_then HB5.out hb6); clear hb6)
    | (go_at_call 14; refine (hNu _ _).mono ?_; rintro en w7 ⟨rfl, rfl⟩)
    | (go_at_call 10; first | (refine (hAw _ (HMX.out _ HB6.out)).mono ?_; rintro en w8 ⟨rfl, hb8⟩; have HB8 := Lib.hid (below_then HB6.out hb8); clear hb8) | (refine (hAw _ (HMX.out _ HB2.out)).mono ?_; rintro en w8 ⟨rfl, hb8⟩; have HB8 := Lib.hid (below_then HB2.out hb8); clear hb8))
    | fail)
  all_goals
    go_ret
    exact ⟨rfl, HB8.out⟩

end Go.Proofs.YtnfabgbidkddhaaGreatDoor
