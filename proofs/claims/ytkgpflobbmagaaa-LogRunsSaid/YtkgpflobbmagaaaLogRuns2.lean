/-
  The walk of pillarboxlaw17.LogRuns, itself.
-/
import Derived.Test.YtkgpflobbmagaaaLogRuns
namespace Go.Proofs.Ytkgpflobbmagaaa
open Go.RowKit
attribute [local go_sem ↓] Go.wp_at_zero Go.wp_at_succ

set_option maxRecDepth 100000 in
set_option maxHeartbeats 4000000 in
theorem logRuns_any (most : Int) (hmr : -9223372036854775808 ≤ most ∧ most ≤ 9223372036854775807) (A : Option Addr) (n cap : Nat) (rows : Nat → List E4) (vs : Nat → Value) (B : Option Addr) (m capB : Nat) (asks : List E4) (w : World) (hm : asks.length = m)
    (hA : 0 < n → ∃ b off, A = some ⟨b, off, none⟩ ∧ b < w.heap.size ∧ ∀ i, i < n → w.cell? ⟨b, off + i, none⟩ = some (vs i) ∧ RdS w [] 4 (vs i) (rows i).length (flatE (rows i)))
    (hB : RdS w [] 4 (.slice B m capB) m (flatE asks)) :
    Calls Try.prog 7 #[.int .i64 most, .slice A n cap, .slice B m capB] w fun e w' => e = .returned (.bool true) ∧ Below w.heap.size w w' := by
  have hAw := fun W => awake17_any W
  have hNu := fun W n => num_any W n
  have HA := Lib.hid hA
  have HB := Lib.hid hB
  have HM := Lib.hid hm
  clear hA hB hm
  by_cases hbig : 40 < n ∨ 40 < m ∨ 2000 < most
  · by_cases h1 : 40 < n
    · go_enter Try.func7, Try.ntmps7
      go_wp2_with (first
        | (go_at_call 18; refine (hAw _).mono ?_; rintro e w1 ⟨rfl, hb⟩; have HBE := Lib.hid hb; clear hb)
        | fail)
      go_ret
      exact ⟨rfl, HBE.out⟩
    · by_cases h2 : 40 < m
      · clear hbig
        go_enter Try.func7, Try.ntmps7
        go_wp2_with (first
          | (go_at_call 18; refine (hAw _).mono ?_; rintro e w1 ⟨rfl, hb⟩; have HBE := Lib.hid hb; clear hb)
          | fail)
        go_ret
        exact ⟨rfl, HBE.out⟩
      · have h3 : 2000 < most := by omega
        clear hbig
        go_enter Try.func7, Try.ntmps7
        go_wp2_with (first
          | (go_at_call 18; refine (hAw _).mono ?_; rintro e w1 ⟨rfl, hb⟩; have HBE := Lib.hid hb; clear hb)
          | fail)
        go_ret
        exact ⟨rfl, HBE.out⟩
  · have hn40 : ¬ 40 < n := by omega
    have hm40 : ¬ 40 < m := by omega
    have hm2k : ¬ 2000 < most := by omega
    clear hbig
    by_cases hlow : most < 1
    · have h1 := new_bad most w hlow
      go_enter Try.func7, Try.ntmps7
      go_wp2_with (first
        | (go_at_call 19; refine h1.mono ?_; rintro e w1 ⟨rfl, rfl⟩; clear h1)
        | (go_at_call 20; refine (hNu _ _).mono ?_; rintro e wn ⟨rfl, rfl⟩)
        | (go_at_call 18; refine (hAw _).mono ?_; rintro e w1 ⟨rfl, hb⟩; have HBE := Lib.hid hb; clear hb)
        | fail)
      go_ret
      exact ⟨rfl, HBE.out⟩
    · have h1 := new_ok most w hlow
      go_enter Try.func7, Try.ntmps7
      go_upto_block 0 with (first
        | (go_at_call 19; refine h1.mono ?_; rintro e w1 ⟨rfl, hl, hb, hlt⟩; have HL := Lib.hid hl; have HBW := Lib.hid hb; clear h1 hl hb)
        | (go_at_call 20; refine (hNu _ _).mono ?_; rintro e wn ⟨rfl, rfl⟩)
        | fail)
      have HOK := Lib.hid (RunsOk.mk (Both.start HL.out HBW.out) rfl (by simp) : RunsOk w _ w.heap.size none w1.heap.size none ⟨most, [], 0⟩ most)
      clear HL HBW
      have hw1 : w.heap.size < w1.heap.size := hlt
      go_cut [] (fun wx => ∃ (h h2 : Option Nat) (x : LogV), Hid (RunsOk w wx w.heap.size h w1.heap.size h2 x most))
      case first =>
        go_wp2_with fail
        go_loopw [10] (fun i wr => ∃ (k : Nat) (h h2 : Option Nat) (x : LogV), k ≤ n ∧ i = .int .i64 k ∧ Hid (RunsOk w wr w.heap.size h w1.heap.size h2 x most)) (fun i _ => n - (intOf i).toNat)
        case atStart => exact ⟨0, none, none, _, Nat.zero_le _, rfl, HOK⟩
        case round =>
          obtain ⟨k, h, h2, x, hk, rfl, HU⟩ := hrel
          by_cases hlt : k < n
          · obtain ⟨b, off, rfl, hbl, hcell⟩ := HA.out (by omega)
            obtain ⟨hd, hrow⟩ := hcell k hlt
            obtain ⟨A', cap', hvs, _, _⟩ := hrow.form
            obtain ⟨N, hN⟩ : ∃ N, (rows k).length = N := ⟨_, rfl⟩
            rw [hN] at hvs
            rw [hvs] at hd hrow
            have hbel := HU.out.both.below
            have d0 : wr.cell? ⟨b, off + k, none⟩ = some (.slice A' N cap') := (hbel.cell (p := ⟨b, off + k, none⟩) hbl).trans hd
            have HROW := Lib.hid hrow
            clear hd hrow hvs hbel hcell hN
            by_cases hN40 : 40 < N
            · have HBE := HU.out.both.below
              have HB := Lib.hid HBE
              clear HBE
              go_wp2_with (first
                | (go_at_call 18; refine (hAw _).mono ?_; rintro e w2 ⟨rfl, hb⟩; have HBE := Lib.hid (bthen' HB.out hb); clear hb)
                | fail)
              go_ret
              exact ⟨rfl, HBE.out⟩
            · have hN40' : N ≤ 40 := by omega
              have m1 : 1 ≤ x.most := by rw [HU.out.most_]; omega
              have m2 : x.most ≤ 2000 := by rw [HU.out.most_]; omega
              obtain ⟨y, hy⟩ : ∃ y, x.add (rows k) = y := ⟨_, rfl⟩
              have HY := Lib.hid hy
              have hyl := LogV.add_length x (rows k) m1
              rw [hy] at hyl
              have hA1 := runs_add1 HU.out.both m1 m2 HU.out.len A' N cap' (rows k) hN40' HROW.out
              rw [hy] at hA1
              have hA2 := fun W h' (q : Mid w W w.heap.size h' w1.heap.size h2 x y) => runs_add2 q m1 m2 HU.out.len A' N cap' (rows k) hN40' HROW.out HY.out
              have HYL := Lib.hid hyl
              clear hy hyl m1 m2
              go_wp2_with (first
                | (go_at_call 21; refine hA1.mono ?_; rintro e w2 ⟨rfl, h', hmid⟩; have hbm := hmid.below; have d1 : w2.cell? ⟨b, off + k, none⟩ = some (.slice A' N cap') := ((hbm.cell (p := ⟨b, off + k, none⟩) hbl).trans (HU.out.both.below.cell (p := ⟨b, off + k, none⟩) hbl).symm).trans d0; have HM := Lib.hid hmid; clear hmid hbm hA1)
                | (go_at_call 27; refine (hA2 _ _ HM.out).mono ?_; rintro e w3 ⟨rfl, h2', hbo⟩; have HBO := Lib.hid hbo; clear hbo hA2)
                | fail)
              obtain ⟨v2, hB2, hs2⟩ := HBO.out.two
              obtain ⟨L, hL⟩ : ∃ L, y.es.length = L := ⟨_, rfl⟩
              have hL2 : L ≤ 2000 := by have := HYL.out; have := HU.out.most_; omega
              rw [hL] at hs2
              obtain ⟨A2, cap2, rfl, _, _⟩ := hs2.form
              have c1 : w3.cell? ⟨w1.heap.size, 1, none⟩ = some (.slice A2 L cap2) := hB2.cell 1
              have c2 : w3.cell? ⟨w1.heap.size, 2, none⟩ = some (.int .i64 y.floor) := hB2.cell 2
              have HS2 := Lib.hid (hs2.reads [] (by simp))
              have HB2 := Lib.hid hB2
              have HL := Lib.hid hL
              have hAl := fun W (q : Both w W w.heap.size h' w1.heap.size h2' y) => runs_all q L hL hL2
              have hFl := fun W (q : Both w W w.heap.size h' w1.heap.size h2' y) => floor_any W w.heap.size h' y q.one
              have hEn := fun W A p (h1 : RdS W [] 4 (.slice A L p) L (flatE y.es)) (h2 : RdS W [] 4 (.slice A2 L cap2) L (flatE y.es)) => entries_any W (.slice A L p) (.slice A2 L cap2) y.es y.es (by rw [HL.out]; exact h1) (by rw [HL.out]; exact h2)
              simp only [decide_true] at hEn
              clear hB2 hs2 hL
              go_region_with (first
                | (go_at_call 26; go_loud (refine (hAl _ (HBO.out.heap (by rfl) (by rfl) (by rfl) (by rfl))).mono ?_; rintro e w4 ⟨A3, p3, rfl, hq, hb0, hr⟩; have hb := below_of_drew hb0; have b4 := HB2.out.below hb HB2.out.lt; have r4 := HS2.out.below hb; have d1 := b4.cell 1; have d2 := b4.cell 2; have HB4 := Lib.hid b4; have HR4 := Lib.hid (And.intro r4 hr); have HQ4 := Lib.hid hq; clear b4 r4 hq hb hb0 hr))
                | (go_at_call 25; refine (hEn _ _ _ HR4.out.2 HR4.out.1).mono ?_; rintro e w5 ⟨rfl, hb⟩; have b5 := HB4.out.below hb HB4.out.lt; have HQ5 := Lib.hid (HQ4.out.later hb); have e2 := b5.cell 2; clear hb b5)
                | (go_at_call 28; refine (hFl _ HQ5.out).mono ?_; rintro e wn ⟨rfl, rfl⟩)
                | fail)
              all_goals
                have HR5 := Lib.hid (RunsOk.mk HQ5.out (by have := HYL.out.2; have := HU.out.most_; omega) (by rw [HL.out]; exact hL2) : RunsOk w _ w.heap.size h' w1.heap.size h2' y most)
                go_wp2
                refine ⟨?_, by simp [intOf]; omega⟩
                first | exact ⟨k + 1, _, _, _, by omega, by go_num, HR5⟩ | ((repeat apply Exists.intro); exact ⟨⟨k + 1, _, _, _, by omega, by go_num, HR5⟩, rfl⟩)
          · go_wp2_with fail
            go_meet
            exact ⟨_, _, _, HU⟩
      case rest =>
        obtain ⟨h, h2, x, HU⟩ := hcut
        clear HOK HA
        go_wp2_with fail
        go_loopw [11] (fun i wr => ∃ (k : Nat), k ≤ m ∧ i = .int .i64 k ∧ Hid (RunsOk w wr w.heap.size h w1.heap.size h2 x most)) (fun i _ => m - (intOf i).toNat)
        case atStart => exact ⟨0, Nat.zero_le _, rfl, HU⟩
        case round =>
          obtain ⟨k, hk, rfl, HV⟩ := hrel
          by_cases hlt : k < m
          · have hke : k < asks.length := by rw [HM.out]; exact hlt
            obtain ⟨b, off, cap2, hva, _, _, hbl, _, hat⟩ := HB.out.at_ (by omega)
            injection hva with hva1 _ hva3
            subst hva1
            subst hva3
            have hbel := HV.out.both.below
            obtain ⟨f0, f1, f2, f3⟩ := flatE_at asks k hke
            have hrd : ∀ j, j < m * 4 → wr.cell? ⟨b, off + j, none⟩ = (flatE asks)[j]? := fun j hj => (hbel.cell (p := ⟨b, off + j, none⟩) hbl).trans (hat j hj)
            have d0 := (hrd (k * 4) (by omega)).trans f0
            have d1 := (hrd (k * 4 + 1) (by omega)).trans f1
            have d2 := (hrd (k * 4 + 2) (by omega)).trans f2
            have d3 := (hrd (k * 4 + 3) (by omega)).trans f3
            have hbl2 : b < wr.heap.size := Nat.lt_of_lt_of_le hbl hbel.size
            clear hrd hat f0 f1 f2 f3 hbel
            rw [← Nat.add_assoc] at d1 d2 d3
            generalize asks[k] = a at d0 d1 d2 d3
            obtain ⟨t, st, more, er, hans⟩ : ∃ t st more er, x.since a.m a.k a.i a.h = ⟨t, st, more, er⟩ := ⟨_, _, _, _, rfl⟩
            have hS1 := fun W (q : Both w W w.heap.size h w1.heap.size h2 x) => runs_since1 q a.m a.k a.i a.h HV.out.len t st er more hans
            have hS2 := fun W (q : Both w W w.heap.size h w1.heap.size h2 x) => runs_since2 q a.m a.k a.i a.h HV.out.len t st er more hans
            clear hans
            go_wp2_with (first
              | (go_at_call 22; refine (hS1 _ (HV.out.both.alloc _)).mono ?_; rintro e w5 ⟨A0, A1, A2, p0, p1, p2, rfl, hq, hb, hr⟩; have hX := (Blk.new wr 63 #[.int .i64 a.m, .int .i64 a.k, .int .i64 a.i, .int .i64 a.h]).below hb (by simp); have hxl := hX.lt; have y0 := hX.cell 0; have y1 := hX.cell 1; have y2 := hX.cell 2; have y3 := hX.cell 3; have HQ5 := Lib.hid hq; have HR5 := Lib.hid hr; have HZ := Lib.hid (Blk.new w5 46 #[.slice A0 t.made.length p0, .slice A1 t.turned.length p1, .slice A2 t.gone.length p2, .int .i64 st, .bool more]); clear hX hq hb hr hS1)
              | (go_at_call 29; refine (hS2 _ (HQ5.out.alloc _)).mono ?_; rintro e w6 ⟨B0, B1, B2, q0, q1, q2, rfl, hq, hb, hr⟩; have hZ := HZ.out.below hb HZ.out.lt; have hzl := hZ.lt; have z0 := hZ.cell 0; have z1 := hZ.cell 1; have z2 := hZ.cell 2; have z3 := hZ.cell 3; have z4 := hZ.cell 4; have HQ6 := Lib.hid (hq.alloc (.cells #[.slice B0 t.made.length q0, .slice B1 t.turned.length q1, .slice B2 t.gone.length q2, .int .i64 st, .bool more] 46)); have HRa := Lib.hid (((HR5.out.alloc (.cells #[.slice A0 t.made.length p0, .slice A1 t.turned.length p1, .slice A2 t.gone.length p2, .int .i64 st, .bool more] 46)).below hb).alloc (.cells #[.slice B0 t.made.length q0, .slice B1 t.turned.length q1, .slice B2 t.gone.length q2, .int .i64 st, .bool more] 46)); have HRb := Lib.hid (hr.alloc (.cells #[.slice B0 t.made.length q0, .slice B1 t.turned.length q1, .slice B2 t.gone.length q2, .int .i64 st, .bool more] 46)); clear hZ hq hb hr hS2)
              | (go_at_call 30; refine (changes_same _ t st more A0 A1 A2 B0 B1 B2 p0 p1 p2 q0 q1 q2 HRa.out HRb.out).mono ?_; rintro e w7 ⟨rfl, hb⟩; have HQ7 := Lib.hid (RunsOk.mk (HQ6.out.later hb) HV.out.most_ HV.out.len); clear hb)
              | (go_at_call 20; refine (hNu _ _).mono ?_; rintro e wn ⟨rfl, rfl⟩)
              | fail)
            refine ⟨?_, by simp [intOf]; omega⟩
            first | exact ⟨k + 1, by omega, by go_num, HQ7⟩ | ((repeat apply Exists.intro); exact ⟨⟨k + 1, by omega, by go_num, HQ7⟩, rfl⟩)
          · go_wp2_with (first
              | (go_at_call 18; refine (hAw _).mono ?_; rintro e w8 ⟨rfl, hb⟩; have HBE := Lib.hid (bthen' HV.out.both.below hb); clear hb)
              | fail)
            go_ret
            exact ⟨rfl, HBE.out⟩

end Go.Proofs.Ytkgpflobbmagaaa
