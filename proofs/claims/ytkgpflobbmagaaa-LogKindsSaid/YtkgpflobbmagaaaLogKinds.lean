/-
  The walk of pillarboxlaw17.LogKinds.
-/
import Derived.Test.YtkgpflobbmagaaaLogTwo
namespace Go.Proofs.Ytkgpflobbmagaaa
open Go.RowKit
attribute [local go_sem ↓] Go.wp_at_zero Go.wp_at_succ

set_option maxRecDepth 100000 in
set_option maxHeartbeats 4000000 in
theorem logKinds_any (A : Option Addr) (n cap f : Nat) (sp : Nat → Nat × Nat) (hsp : ∀ i, (sp i).1 ≤ 255 ∧ (sp i).2 ≤ 255) (hf : f ≤ 255) (w : World)
    (hA : 0 < n → ∃ b off, A = some ⟨b, off, none⟩ ∧ b < w.heap.size ∧ ∀ i, i < n → w.cell? ⟨b, off + i * 2, none⟩ = some (.int .u8 (sp i).1) ∧ w.cell? ⟨b, off + i * 2 + 1, none⟩ = some (.int .u8 (sp i).2)) :
    Calls Try.prog 9 #[.slice A n cap, .int .u8 f] w fun e w' => e = .returned (.bool true) ∧ Below w.heap.size w w' := by
  have hAw := fun W => awake17_any W
  have hNu := fun W n => num_any W n
  have HA := Lib.hid hA
  have HSP := Lib.hid hsp
  clear hA hsp
  by_cases h80 : 80 < n
  · go_enter Try.func9, Try.ntmps9
    go_wp2_with (first
      | (go_at_call 18; refine (hAw _).mono ?_; rintro e w1 ⟨rfl, hb⟩; have HB := Lib.hid hb; clear hb)
      | fail)
    go_ret
    exact ⟨rfl, HB.out⟩
  · have h1 := new_ok 1000 w (by decide)
    have hNew := fun W => new_ok 1000 W (by decide)
    go_enter Try.func9, Try.ntmps9
    go_wp2_with (first
      | (go_at_call 19; with_reducible refine h1.mono ?_; rintro e w1 ⟨rfl, hl, hb, _⟩; have HL := Lib.hid (OwnLog.new hl hb); clear hl hb h1)
      | (go_at_call 19; with_reducible refine (hNew _).mono ?_; rintro e w2 ⟨rfl, hl, hb, _⟩; have HT := Lib.hid (TwoLogs.fresh HL.out hb hl (Nat.le_refl _) (by simp)); have HW1 := Lib.hid hb.size; clear hl hb hNew)
      | (go_at_call 20; refine (hNu _ _).mono ?_; rintro e wn ⟨rfl, rfl⟩)
      | fail)
    go_loopw [9, 10] (fun c i wr => ∃ (k : Nat) (hx hy : Option Nat), k ≤ n ∧ c = .int .i64 ((k : Int) + 1) ∧ i = .int .i64 k ∧ Hid (TwoLogs w wr w.heap.size hx ⟨1000, xs sp k, 0⟩ w1.heap.size hy ⟨1000, ys sp k, 0⟩)) (fun _ i _ => n - (intOf i).toNat)
    case atStart => exact ⟨0, none, none, Nat.zero_le _, rfl, rfl, HT⟩
    case round =>
      obtain ⟨k, hx, hy, hk, rfl, rfl, HU⟩ := hrel
      by_cases hlt : k < n
      · have hbel := HU.out.one.below
        have hsz := hbel.size
        obtain ⟨ba, off, rfl, hbl, hcell⟩ := HA.out (by omega)
        have d0 : wr.cell? ⟨ba, off + k * 2, none⟩ = some (.int .u8 (sp k).1) := (hbel.cell (p := ⟨ba, off + k * 2, none⟩) hbl).trans (hcell k hlt).1
        have d1 : wr.cell? ⟨ba, off + k * 2 + 1, none⟩ = some (.int .u8 (sp k).2) := (hbel.cell (p := ⟨ba, off + k * 2 + 1, none⟩) hbl).trans (hcell k hlt).2
        obtain ⟨u1, u2⟩ := HSP.out k
        clear hbel hcell
        go_wp2_with fail
        go_quiet (fail)
        go_wp2_with fail
        have hq := HU.out.drewN nq
        have HQ := Lib.hid hq
        have hA1 := addC hq.one (x3 sp k) 3 3 #[.int .i64 ((k : Int) + 1 + 1), .int .i64 1, .int .i64 (1 + ((sp k).1 : Int) % 9), .int .i64 (1 + ((sp k).2 : Int) % 3), .int .i64 ((k : Int) + 1 + 1), .int .i64 2, .int .i64 (1 + ((sp k).1 : Int) % 9), .int .i64 (1 + ((sp k).2 : Int) % 3), .int .i64 ((k : Int) + 1 + 1), .int .i64 3, .int .i64 ((1 + ((sp k).1 : Int) % 9) + 1), .int .i64 (1 + ((sp k).2 : Int) % 3)] _ (kinds_x sp k (by omega)) rfl (by simp [flatE, encE, x3, kK, hK]; try omega) (show (1 : Int) ≤ 1000 by decide) (show (1000 : Int) ≤ 1099511627776 by decide) (by simp only [xs_length]; omega) (by decide)
        have hA2 := fun W (hx' : Option Nat) (q : TwoLogs w W w.heap.size hx' ⟨1000, xs sp (k + 1), 0⟩ w1.heap.size hy ⟨1000, ys sp k, 0⟩) => addC q.two (y1 sp k) 1 1 #[.int .i64 ((k : Int) + 1 + 1), .int .i64 2, .int .i64 (1 + ((sp k).1 : Int) % 9), .int .i64 (1 + ((sp k).2 : Int) % 3)] _ (kinds_y sp k (by omega)) rfl (by simp [flatE, encE, y1, kK, hK]; try omega) (show (1 : Int) ≤ 1000 by decide) (show (1000 : Int) ≤ 1099511627776 by decide) (by simp only [ys_length]; omega) (by decide)
        rw [show (wr.drewN nq).heap.size = wr.heap.size from rfl] at hA1
        clear hq
        go_wp2_with (first
          | (go_at_call 21; refine hA1.mono ?_; rintro e w3 ⟨rfl, hx', hl, hc, ho⟩; have HQ2 := Lib.hid (HQ.out.added hl hc ho); clear hl hc ho hA1)
          | (go_at_call 21; refine (hA2 _ _ HQ2.out).mono ?_; rintro e w4 ⟨rfl, hy', hl, hc, ho⟩; have HQ3 := Lib.hid ((HQ2.out.swap.added hl hc ho).swap); clear hl hc ho hA2)
          | fail)
        refine ⟨?_, by simp [intOf]; omega⟩
        first | exact ⟨k + 1, hx', hy', by omega, by go_num, by go_num, HQ3⟩ | ((repeat apply Exists.intro); exact ⟨⟨k + 1, hx', hy', by omega, by go_num, by go_num, HQ3⟩, rfl⟩)
      · have hkn : k = n := by omega
        subst hkn
        obtain ⟨at_, hat⟩ : ∃ a : Int, (if (f : Int) < (k : Int) + 1 then (f : Int) else (k : Int) + 1) = a := ⟨_, rfl⟩
        have hat0 : 0 ≤ at_ ∧ at_ ≤ (k : Int) + 1 := by
          rw [← hat]
          split <;> omega
        have hmn := fun ats ty W => run_min_int (P := Try.prog) ats ty ((k : Int) + 1) f W
        rw [hat] at hmn
        obtain ⟨t, hz3, hy3, hx3⟩ := kinds_since sp k at_ hat0.1 hat0.2
        have hSx := fun W (hx' : Option Nat) (q : OwnLog w W w.heap.size hx' ⟨1000, xs sp k ++ [⟨(k : Int) + 1 + 1, 2, 1, 2⟩], 0⟩) => sinceO q 2 at_ ((k : Int) + 1) 0 (by simp [xs_length]; omega) t ((k : Int) + 1) 0 false hx3
        have hSy := fun W (q : OwnLog w W w1.heap.size hy ⟨1000, ys sp k, 0⟩) => sinceO q 2 at_ ((k : Int) + 1) 0 (by simp only [ys_length]; omega) t ((k : Int) + 1) 0 false hy3
        have hSz := fun W (g3 : Nat) (h3 : Option Nat) (q : OwnLog w W g3 h3 ⟨1000, xs sp k, 0⟩) => sinceO q 2 at_ ((k : Int) + 1) 0 (by simp only [xs_length]; omega) t ((k : Int) + 1) 0 false hz3
        have hCo := copy_any wr w.heap.size hx ⟨1000, xs sp k, 0⟩ HU.out.one.log (by simp only [xs_length]; omega)
        clear hat hx3 hy3 hz3 hat0
        go_wp2_with (first
          | (go_at_call 31; refine hCo.mono ?_; rintro e w5 ⟨g3, h3, rfl, hl, hb, hg, hh⟩; have HXZ := Lib.hid (TwoLogs.fresh HU.out.one hb hl hg hh); have HXY := Lib.hid (HU.out.later hb); clear hl hb hg hh hCo)
          | fail)
        have hA3 := addC HXY.out.one [⟨(k : Int) + 1 + 1, 2, 1, 2⟩] 1 1 #[.int .i64 ((k : Int) + 1 + 1), .int .i64 2, .int .i64 1, .int .i64 2] _ (kinds_last sp k (by omega)) rfl (by simp [flatE, encE]) (show (1 : Int) ≤ 1000 by decide) (show (1000 : Int) ≤ 1099511627776 by decide) (by simp only [xs_length]; omega) (by decide)
        go_wp2_with (first
          | (go_at_call 21; refine hA3.mono ?_; rintro e w6 ⟨rfl, hx6, hl, hc, ho⟩; have HXY6 := Lib.hid (HXY.out.added hl hc ho); have HXZ6 := Lib.hid (HXZ.out.added hl hc ho); clear hl hc ho hA3 HXY HXZ)
          | (go_at_call 22; refine (hSx _ _ HXY6.out.one).mono ?_; rintro e w7 ⟨A0, A1, A2, p0, p1, p2, rfl, hu, hb, hli⟩; have HY7 := Lib.hid ((HXY6.out.two.later hb).alloc (.cells #[.slice A0 t.made.length p0, .slice A1 t.turned.length p1, .slice A2 t.gone.length p2, .int .i64 ((k : Int) + 1), .bool false] 46)); have HZ7 := Lib.hid ((HXZ6.out.two.later hb).alloc (.cells #[.slice A0 t.made.length p0, .slice A1 t.turned.length p1, .slice A2 t.gone.length p2, .int .i64 ((k : Int) + 1), .bool false] 46)); have HL7 := Lib.hid (hli.reads.alloc (.cells #[.slice A0 t.made.length p0, .slice A1 t.turned.length p1, .slice A2 t.gone.length p2, .int .i64 ((k : Int) + 1), .bool false] 46)); have HB7 := Lib.hid (Blk.new w7 46 #[.slice A0 t.made.length p0, .slice A1 t.turned.length p1, .slice A2 t.gone.length p2, .int .i64 ((k : Int) + 1), .bool false]); clear hu hb hli hSx HXY6 HXZ6)
          | (go_at_call 22; refine (hSy _ HY7.out).mono ?_; rintro e w8 ⟨B0, B1, B2, q0, q1, q2, rfl, hu, hb, hli⟩; have HZ8 := Lib.hid ((HZ7.out.later hb).alloc (.cells #[.slice B0 t.made.length q0, .slice B1 t.turned.length q1, .slice B2 t.gone.length q2, .int .i64 ((k : Int) + 1), .bool false] 46)); have HL8a := Lib.hid ((HL7.out.below hb).alloc (.cells #[.slice B0 t.made.length q0, .slice B1 t.turned.length q1, .slice B2 t.gone.length q2, .int .i64 ((k : Int) + 1), .bool false] 46)); have HL8b := Lib.hid (hli.reads.alloc (.cells #[.slice B0 t.made.length q0, .slice B1 t.turned.length q1, .slice B2 t.gone.length q2, .int .i64 ((k : Int) + 1), .bool false] 46)); have HB8a := Lib.hid ((HB7.out.below hb HB7.out.lt).alloc (.cells #[.slice B0 t.made.length q0, .slice B1 t.turned.length q1, .slice B2 t.gone.length q2, .int .i64 ((k : Int) + 1), .bool false] 46)); have HB8b := Lib.hid (Blk.new w8 46 #[.slice B0 t.made.length q0, .slice B1 t.turned.length q1, .slice B2 t.gone.length q2, .int .i64 ((k : Int) + 1), .bool false]); clear hu hb hli hSy HY7 HZ7 HL7 HB7)
          | (go_at_call 22; refine (hSz _ _ _ HZ8.out).mono ?_; rintro e w9 ⟨C0, C1, C2, r0, r1, r2, rfl, hu, hb, hli⟩; have HZ9 := Lib.hid (hu.alloc (.cells #[.slice C0 t.made.length r0, .slice C1 t.turned.length r1, .slice C2 t.gone.length r2, .int .i64 ((k : Int) + 1), .bool false] 46)); have HL9a := Lib.hid ((HL8a.out.below hb).alloc (.cells #[.slice C0 t.made.length r0, .slice C1 t.turned.length r1, .slice C2 t.gone.length r2, .int .i64 ((k : Int) + 1), .bool false] 46)); have HL9b := Lib.hid ((HL8b.out.below hb).alloc (.cells #[.slice C0 t.made.length r0, .slice C1 t.turned.length r1, .slice C2 t.gone.length r2, .int .i64 ((k : Int) + 1), .bool false] 46)); have HL9c := Lib.hid (hli.reads.alloc (.cells #[.slice C0 t.made.length r0, .slice C1 t.turned.length r1, .slice C2 t.gone.length r2, .int .i64 ((k : Int) + 1), .bool false] 46)); have hBa := HB8a.out.below hb HB8a.out.lt; have hBb := HB8b.out.below hb HB8b.out.lt; have la := hBa.lt; have lb := hBb.lt; have xa0 := hBa.cell 0; have xa1 := hBa.cell 1; have xa2 := hBa.cell 2; have xa3 := hBa.cell 3; have xa4 := hBa.cell 4; have xb0 := hBb.cell 0; have xb1 := hBb.cell 1; have xb2 := hBb.cell 2; have xb3 := hBb.cell 3; have xb4 := hBb.cell 4; have HB9b := Lib.hid (hBb.alloc (.cells #[.slice C0 t.made.length r0, .slice C1 t.turned.length r1, .slice C2 t.gone.length r2, .int .i64 ((k : Int) + 1), .bool false] 46)); have HB9c := Lib.hid (Blk.new w9 46 #[.slice C0 t.made.length r0, .slice C1 t.turned.length r1, .slice C2 t.gone.length r2, .int .i64 ((k : Int) + 1), .bool false]); clear hu hb hli hSz HZ8 HL8a HL8b HB8a HB8b hBa hBb)
          | (go_at_call 20; refine (hNu _ _).mono ?_; rintro e wn ⟨rfl, rfl⟩)
          | (go_at_call 30; refine (changes_same _ t ((k : Int) + 1) false A0 A1 A2 B0 B1 B2 p0 p1 p2 q0 q1 q2 HL9a.out HL9b.out).mono ?_; rintro e w10 ⟨rfl, hb⟩; have hBb := HB9b.out.below hb HB9b.out.lt; have hBc := HB9c.out.below hb HB9c.out.lt; have yb0 := hBb.cell 0; have yb1 := hBb.cell 1; have yb2 := hBb.cell 2; have yb3 := hBb.cell 3; have yb4 := hBb.cell 4; have yc0 := hBc.cell 0; have yc1 := hBc.cell 1; have yc2 := hBc.cell 2; have yc3 := hBc.cell 3; have yc4 := hBc.cell 4; have HL10b := Lib.hid (HL9b.out.below hb); have HL10c := Lib.hid (HL9c.out.below hb); have HZ10 := Lib.hid (HZ9.out.later hb); clear hb hBb hBc HL9a HL9b HL9c HZ9 HB9b HB9c)
          | (go_at_call 30; refine (changes_same _ t ((k : Int) + 1) false B0 B1 B2 C0 C1 C2 q0 q1 q2 r0 r1 r2 HL10b.out HL10c.out).mono ?_; rintro e w11 ⟨rfl, hb⟩; have HZ11 := Lib.hid (HZ10.out.later hb); clear hb HL10b HL10c HZ10)
          | (go_at_call 26; refine (allO HZ11.out (by simp only [xs_length]; omega) (3 * k) (by simp only [xs_length])).mono ?_; rintro e w12 ⟨A3, p3, hh3, rfl, hu, _, _, _⟩; have HB12 := Lib.hid hu.below; clear hu HZ11)
          | (go_at_call 18; refine (hAw _).mono ?_; rintro e w13 ⟨rfl, hb⟩; have HB13 := Lib.hid (bthen' HB12.out hb); clear hb HB12)
          | fail)
        go_ret
        exact ⟨rfl, HB13.out⟩

end Go.Proofs.Ytkgpflobbmagaaa
