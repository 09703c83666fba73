/-
  The walk of the reference's Crit.
-/
import Derived.Test.YtnfabgbidkddhaaGreatDoorSrchKM
import Derived.Test.YtnfabgbidkddhaaGreatDoorGRF
namespace Go.Proofs.YtnfabgbidkddhaaGreatDoor
open Go.RowKit
attribute [local go_sem ↓] Go.wp_at_zero Go.wp_at_succ

theorem srec_all (E : CEnv) : ∀ N, SRec E N
  | 0 => by
    intro w0 wS w g uv ws out mod h0 h he k0 hN hn
    cases ws with
    | nil => exact one_nil k0 _ (by omega)
    | cons t ts =>
      have := szW_pos t
      simp only [szL] at hN
      omega
  | N + 1 => one_step (srec_all E N)

set_option maxRecDepth 100000 in
set_option maxHeartbeats 4000000 in
theorem crit22_any (w : World) (v uv : Value) (E : CEnv) (ws : List WT) (hv : WsAt w v ws) (hok : okL ws) (he : EAt w uv E) (hsz : szL ws ≤ 100000000000) :
    Calls Tryz.prog 12 #[v, .int .i64 E.box, uv] w (ROut w (readP E ws)) := by
  obtain ⟨A, c, hvf, _, _⟩ := hv.form
  obtain ⟨Au, cu, huv, _, _⟩ := he.uids.form
  have hs0 : SAt w (w.alloc (.cells #[v, .int .i64 0, .slice none 0 0, .int .i64 E.box, uv, .bool false, .bool false] 67)) w.heap.size uv E ws [] false false ⟨none, fun _ => False⟩ := by
    refine ⟨⟨v, .slice none 0 0, [], [], Blk.new _ _ _, hv, Sl.nil _ _ _, rfl⟩, (Below.refl _ _).alloc (Nat.le_refl _) _, ⟨Nat.le_refl _, by simp⟩, hok, by simp⟩
  have hall := all_anyS (srec_all E (szL ws)) hs0.refl he ((Below.refl _ _).alloc (Nat.le_refl _) _).size (Nat.le_refl _) (by simp; omega)
  obtain ⟨rr, hrr⟩ : ∃ rr, readP E ws = rr := ⟨_, rfl⟩
  rw [hrr]
  have HRR := Lib.hid hrr
  obtain ⟨U, hU⟩ : ∃ U, E.uids.length = U := ⟨_, rfl⟩
  obtain ⟨L, hL⟩ : ∃ L, ws.length = L := ⟨_, rfl⟩
  rw [hU] at huv
  rw [hL] at hvf
  subst huv hvf
  have HB0 := Lib.hid hs0.bel
  have HL := Lib.hid hL
  clear hs0 hv hok he hrr hL
  rcases Nat.eq_zero_or_pos L with h0 | h0
  · have c0 : ((L : Int) == 0) = true := by simp [h0]
    have hw : ws = [] := List.eq_nil_of_length_eq_zero (by rw [HL.out]; exact h0)
    clear h0 hall
    go_enter Tryz.func12, Tryz.ntmps12
    go_wp2
    have hr : rr = ([], false, 3) := by
      rw [← HRR.out, hw]
      unfold readP
      rw [wholeP_nil]
      simp
    subst hr
    go_ret3
    exact ⟨_, none, [], fun _ => False, rfl, Sl.nil _ _ _, rfl, HB0.out⟩
  · have c0 : ((L : Int) == 0) = false := by simp; omega
    have hw : ws ≠ [] := by
      intro e
      have := HL.out
      rw [e] at this
      simp at this
      omega
    have HW := Lib.hid hw
    clear h0 hw
    go_enter Tryz.func12, Tryz.ntmps12
    go_wp2_with (first
      | (go_at_call 20; refine hall.mono ?_; rintro e w5 ⟨k, ws', out', mod', bad', h', rfl, hk, hres, hb⟩; have HK := Lib.hid hk; have hres2 := hres HW.out; have HRES := Lib.hid hres2; obtain ⟨wv, fv, xs, pre, hg, _, hs, hx⟩ := hk.at_.rd; obtain ⟨Ao, co, rfl, _, _⟩ := hs.form; have f1 : w5.cell? ⟨w.heap.size, 2, none⟩ = some (.slice Ao out'.length co) := hg.cell 2; have f2 : w5.cell? ⟨w.heap.size, 5, none⟩ = some (.bool mod') := hg.cell 5; have f3 : w5.cell? ⟨w.heap.size, 6, none⟩ = some (.bool bad') := hg.cell 6; obtain ⟨n, hn⟩ : ∃ n, out'.length = n := ⟨_, rfl⟩; rw [hn] at f1 hs; have HN := Lib.hid hn; have HSL := Lib.hid hs; have HX := Lib.hid hx; clear hk hres hres2 hall hb hg hs hx hn; cases bad' <;> by_cases h40 : 40 < n)
      | fail)
    · have hr : rr = ([], false, 13) := by
        rw [← HRR.out]
        unfold readP
        rw [HRES.out]
        simp only [Bool.false_eq_true, if_false]
        rw [if_pos (by rw [HN.out]; exact h40)]
      subst hr
      go_ret3
      exact ⟨_, none, [], fun _ => False, rfl, Sl.nil _ _ _, rfl, HK.out.at_.bel⟩
    · have hr : rr = (out', mod', 0) := by
        rw [← HRR.out]
        unfold readP
        rw [HRES.out]
        simp only [Bool.false_eq_true, if_false]
        rw [if_neg (by rw [HN.out]; exact h40)]
      subst hr
      go_quiet (fail)
      go_wp2
      go_ret3
      have hb := HK.out.at_.bel
      exact ⟨_, h'.b, xs, h'.f, rfl, by rw [HN.out]; exact HSL.out.heap rfl, OutAt.keep (w := w5) (w' := w5.drewN _) (fun _ _ _ _ _ => rfl) _ _ HX.out, ⟨hb.os, hb.tape, hb.output, hb.size, hb.block⟩⟩
    all_goals
      have hr : rr = ([], false, 3) := by
        rw [← HRR.out]
        unfold readP
        rw [HRES.out]
        simp
      subst hr
      go_ret3
      exact ⟨_, none, [], fun _ => False, rfl, Sl.nil _ _ _, rfl, HK.out.at_.bel⟩

end Go.Proofs.YtnfabgbidkddhaaGreatDoor
