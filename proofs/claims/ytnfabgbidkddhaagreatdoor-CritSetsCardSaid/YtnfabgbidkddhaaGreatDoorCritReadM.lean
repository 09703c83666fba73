/-
  The walk of crit.Read.
-/
import Derived.Test.YtnfabgbidkddhaaGreatDoorCritKeyWM
namespace Go.Proofs.YtnfabgbidkddhaaGreatDoor
open Go.RowKit
attribute [local go_sem ↓] Go.wp_at_zero Go.wp_at_succ

/-- What crit.Read hands back: terms in memory of the call's own, whether clocks are asked for, the number of an error. -/
def ROut (w : World) (r : Out × Bool × Int) (e : Ending) (w' : World) : Prop :=
  ∃ ov hb xs F, e = .returned (.tuple #[ov, .bool r.2.1, .int .i64 r.2.2]) ∧ Sl w' 57 6 ov hb r.1.length xs ∧ OutAt w' F r.1 xs ∧ Below w.heap.size w w'

set_option maxRecDepth 100000 in
set_option maxHeartbeats 4000000 in
theorem critRead_any (w : World) (v uv : Value) (E : CEnv) (ws : List WT) (hv : WsAt w v ws) (hok : okL ws) (he : EAt w uv E) (hsz : szL ws ≤ 100000000000) :
    Calls Tryz.prog 11 #[v, .int .i64 E.box, uv] w (ROut w (readP E ws)) := by
  obtain ⟨A, c, hvf, _, _⟩ := hv.form
  obtain ⟨Au, cu, huv, _, _⟩ := he.uids.form
  have hs0 : RAt w (((w.alloc (.cells #[.slice none 0 0] 27)).alloc (.cells #[.bool false] 4)).alloc (.cells #[v, .int .i64 E.box, uv, .pointer (some ⟨w.heap.size, 0, none⟩), .pointer (some ⟨w.heap.size + 1, 0, none⟩)] 62)) (w.heap.size + 1 + 1) w.heap.size (w.heap.size + 1) uv E ws [] false ⟨none, fun _ => False⟩ := by
    have b1 := Blk.new w 27 #[.slice none 0 0]
    have b2 := Blk.new (w.alloc (.cells #[.slice none 0 0] 27)) 4 #[.bool false]
    have b3 := Blk.new ((w.alloc (.cells #[.slice none 0 0] 27)).alloc (.cells #[.bool false] 4)) 62 #[v, .int .i64 E.box, uv, .pointer (some ⟨w.heap.size, 0, none⟩), .pointer (some ⟨w.heap.size + 1, 0, none⟩)]
    refine ⟨⟨v, by simpa using b3, hv⟩, ⟨_, [], (b1.alloc _).alloc _, Sl.nil _ _ _, rfl⟩, by simpa using b2.alloc _, (((Below.refl _ _).alloc (Nat.le_refl _) _).alloc (by simp) _).alloc (by simp; omega) _, ⟨by omega, Nat.le_refl _, by omega, by simp⟩, hok, by simp⟩
  have hwh := whole_anyK (key_all (szL ws)) hs0 he (Nat.le_refl _) (by simp; omega)
  obtain ⟨rr, hrr⟩ : ∃ rr, readP E ws = rr := ⟨_, rfl⟩
  rw [hrr]
  have HRR := Lib.hid hrr
  obtain ⟨U, hU⟩ : ∃ U, E.uids.length = U := ⟨_, rfl⟩
  obtain ⟨L, hL⟩ : ∃ L, ws.length = L := ⟨_, rfl⟩
  rw [hU] at huv
  rw [hL] at hvf
  subst huv hvf
  have HB0 := Lib.hid hs0.bel
  clear hs0 hv hok he hrr
  go_enter Tryz.func11, Tryz.ntmps11
  go_wp2_with (first
    | (go_at_call 19; refine hwh.mono ?_; rintro e w5 ⟨k, ok, ws', out', mod', h', rfl, hk, hres, hb⟩; have HK := Lib.hid hk; have HRES := Lib.hid hres; obtain ⟨ov, xs, ho, hs, hx⟩ := hk.at_.ou; obtain ⟨Ao, co, rfl, _, _⟩ := hs.form; have f1 : w5.cell? ⟨w.heap.size, 0, none⟩ = some (.slice Ao out'.length co) := ho.cell 0; have f2 : w5.cell? ⟨w.heap.size + 1, 0, none⟩ = some (.bool mod') := hk.at_.mo.cell 0; obtain ⟨n, hn⟩ : ∃ n, out'.length = n := ⟨_, rfl⟩; rw [hn] at f1 hs; have HN := Lib.hid hn; have HSL := Lib.hid hs; have HX := Lib.hid hx; clear hk hres hwh hb ho hs hx hn; cases ok <;> by_cases h40 : 40 < n)
    | fail)
  · have hr : rr = ([], false, 3) := by
      rw [← HRR.out]
      unfold readP
      rw [HRES.out]
      simp
    subst hr
    go_ret3
    exact ⟨_, none, [], fun _ => False, rfl, Sl.nil _ _ _, rfl, HK.out.at_.bel⟩
  · have hr : rr = ([], false, 3) := by
      rw [← HRR.out]
      unfold readP
      rw [HRES.out]
      simp
    subst hr
    go_ret3
    exact ⟨_, none, [], fun _ => False, rfl, Sl.nil _ _ _, rfl, HK.out.at_.bel⟩
  · have hr : rr = ([], false, 13) := by
      rw [← HRR.out]
      unfold readP
      rw [HRES.out]
      simp only [if_true]
      rw [if_pos (by rw [HN.out]; exact h40)]
    subst hr
    go_ret3
    exact ⟨_, none, [], fun _ => False, rfl, Sl.nil _ _ _, rfl, HK.out.at_.bel⟩
  · have hr : rr = (out', mod', 0) := by
      rw [← HRR.out]
      unfold readP
      rw [HRES.out]
      simp only [if_true]
      rw [if_neg (by rw [HN.out]; exact h40)]
    subst hr
    go_quiet (fail)
    go_wp2
    go_ret3
    have hb := HK.out.at_.bel
    exact ⟨_, h'.b, xs, h'.f, rfl, by rw [HN.out]; exact HSL.out.heap rfl, OutAt.keep (w := w5) (w' := w5.drewN _) (fun _ _ _ _ _ => rfl) _ _ HX.out, ⟨hb.os, hb.tape, hb.output, hb.size, hb.block⟩⟩

end Go.Proofs.YtnfabgbidkddhaaGreatDoor
