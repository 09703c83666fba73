/-
  The walk of pillarboxref17.Entries: are two lists one?
-/
import Derived.Test.YtkgpflobbmagaaaLogOwn
import Derived.Laws.StructEq
namespace Go.Proofs.Ytkgpflobbmagaaa
open Go.RowKit
attribute [local go_sem ↓] Go.wp_at_zero Go.wp_at_succ

theorem below_drewN {B : Nat} {w w' : World} (h : Below B w w') (n : Nat) : Below B w (w'.drewN n) := ⟨h.os, h.tape, h.output, h.size, h.block⟩
theorem below_drew {B : Nat} {w w' : World} (h : Below B w w') : Below B w w'.drew := ⟨h.os, h.tape, h.output, h.size, h.block⟩

set_option maxRecDepth 100000 in
set_option maxHeartbeats 2000000 in
theorem entries_any (w : World) (va vb : Value) (a b : List E4) (ha : RdS w [] 4 va a.length (flatE a)) (hb : RdS w [] 4 vb b.length (flatE b)) :
    Calls Try.prog 25 #[va, vb] w fun e w' => e = .returned (.bool (decide (a = b))) ∧ Below w.heap.size w w' := by
  obtain ⟨n, hn⟩ : ∃ n, a.length = n := ⟨_, rfl⟩
  obtain ⟨m, hm⟩ : ∃ m, b.length = m := ⟨_, rfl⟩
  rw [hn] at ha
  rw [hm] at hb
  obtain ⟨A, ca, rfl, hca1, hca2⟩ := ha.form
  have hnb : n ≤ 9223372036854775807 := by
    unfold maxLen at hca2
    omega
  obtain ⟨B, cb, rfl, _, _⟩ := hb.form
  have HA := Lib.hid ha
  have HB := Lib.hid hb
  have HN := Lib.hid hn
  have HM := Lib.hid hm
  clear hn hm ha hb
  go_enter Try.func25, Try.ntmps25
  by_cases hnm : n = m
  · subst hnm
    go_wp2_with fail
    go_loopw [5] (fun i wr => ∃ (k : Nat), k ≤ n ∧ i = .int .i64 k ∧ Hid (Below w.heap.size w wr ∧ a.take k = b.take k)) (fun i _ => n - (intOf i).toNat)
    case atStart => exact ⟨0, Nat.zero_le _, rfl, ⟨Below.refl _ _, rfl⟩⟩
    case round =>
      obtain ⟨k, hk, rfl, HU⟩ := hrel
      by_cases hlt : k < n
      · have hka : k < a.length := by rw [HN.out]; exact hlt
        have hkb : k < b.length := by rw [HM.out]; exact hlt
        have hsz := HU.out.1.size
        obtain ⟨ba, offa, ca', hva, _, _, hbla, _, hca⟩ := HA.out.at_ (by omega)
        injection hva with hva1 hva2 hva3
        subst hva1
        obtain ⟨bb, offb, cb', hvb, _, _, hblb, _, hcb⟩ := HB.out.at_ (by omega)
        injection hvb with hvb1 hvb2 hvb3
        subst hvb1
        clear hva2 hva3 hvb2 hvb3
        obtain ⟨f0, f1, f2, f3⟩ := flatE_at a k hka
        obtain ⟨g0, g1, g2, g3⟩ := flatE_at b k hkb
        have rda : ∀ j, j < n * 4 → wr.cell? ⟨ba, offa + j, none⟩ = (flatE a)[j]? := fun j hj => (HU.out.1.cell (p := ⟨ba, offa + j, none⟩) hbla).trans (hca j hj)
        have rdb : ∀ j, j < n * 4 → wr.cell? ⟨bb, offb + j, none⟩ = (flatE b)[j]? := fun j hj => (HU.out.1.cell (p := ⟨bb, offb + j, none⟩) hblb).trans (hcb j hj)
        have d0 : wr.cell? ⟨ba, offa + k * 4, none⟩ = some (.int .i64 a[k].m) := (rda (k * 4) (by omega)).trans f0
        have d1 : wr.cell? ⟨ba, offa + k * 4 + 1, none⟩ = some (.int .i64 a[k].k) := (rda (k * 4 + 1) (by omega)).trans f1
        have d2 : wr.cell? ⟨ba, offa + k * 4 + 2, none⟩ = some (.int .i64 a[k].i) := (rda (k * 4 + 2) (by omega)).trans f2
        have d3 : wr.cell? ⟨ba, offa + k * 4 + 3, none⟩ = some (.int .i64 a[k].h) := (rda (k * 4 + 3) (by omega)).trans f3
        have e0 : wr.cell? ⟨bb, offb + k * 4, none⟩ = some (.int .i64 b[k].m) := (rdb (k * 4) (by omega)).trans g0
        have e1 : wr.cell? ⟨bb, offb + k * 4 + 1, none⟩ = some (.int .i64 b[k].k) := (rdb (k * 4 + 1) (by omega)).trans g1
        have e2 : wr.cell? ⟨bb, offb + k * 4 + 2, none⟩ = some (.int .i64 b[k].i) := (rdb (k * 4 + 2) (by omega)).trans g2
        have e3 : wr.cell? ⟨bb, offb + k * 4 + 3, none⟩ = some (.int .i64 b[k].h) := (rdb (k * 4 + 3) (by omega)).trans g3
        clear rda rdb hca hcb f0 f1 f2 f3 g0 g1 g2 g3
        have hlb : ba < wr.heap.size := by omega
        have hlbb : bb < wr.heap.size := by omega
        by_cases he : a[k] = b[k]
        · have hnext : a.take (k + 1) = b.take (k + 1) := by
            rw [List.take_succ_eq_append_getElem hka, List.take_succ_eq_append_getElem hkb, HU.out.2, he]
          rw [he] at d0 d1 d2 d3
          have HNEXT := Lib.hid hnext
          clear hnext he
          generalize b[k] = z at d0 d1 d2 d3 e0 e1 e2 e3
          go_wp2_with fail
          go_quiet (fail)
          go_wp2
          have HB2 := fun c => Lib.hid (show Below w.heap.size w (wr.drewN c) ∧ a.take (k + 1) = b.take (k + 1) from ⟨below_drewN HU.out.1 c, HNEXT.out⟩)
          refine ⟨?_, by simp [intOf]; omega⟩
          first | exact ⟨k + 1, by omega, by go_num, HB2 nq⟩ | ((repeat apply Exists.intro); exact ⟨⟨k + 1, by omega, by go_num, HB2 nq⟩, rfl⟩)
        · have hne : false = decide (a = b) := by
            symm
            rw [decide_eq_false_iff_not]
            rintro rfl
            exact he rfl
          have HNE := Lib.hid hne
          have HB1 := fun c => Lib.hid (below_drewN HU.out.1 c)
          clear hne
          generalize hy : a[k] = y at d0 d1 d2 d3 he
          generalize hz : b[k] = z at e0 e1 e2 e3 he
          clear hy hz
          by_cases h0 : y.m = z.m
          · have h0' : (y.m == z.m) = true := by simpa using h0
            by_cases h1 : y.k = z.k
            · have h1' : (y.k == z.k) = true := by simpa using h1
              by_cases h2 : y.i = z.i
              · have h2' : (y.i == z.i) = true := by simpa using h2
                have h3 : ¬ y.h = z.h := fun h3 => he (by
                  cases y
                  cases z
                  simp only at h0 h1 h2 h3
                  subst h0
                  subst h1
                  subst h2
                  subst h3
                  rfl)
                have h3' : (y.h == z.h) = false := by simpa using h3
                clear h0 h1 h2 h3 he
                go_wp2_with fail
                go_quiet (fail)
                go_wp2
                go_ret
                exact ⟨ret_bool HNE.out, (HB1 _).out⟩
              · have h2' : (y.i == z.i) = false := by simpa using h2
                clear h0 h1 h2 he
                go_wp2_with fail
                go_quiet (fail)
                go_wp2
                go_ret
                exact ⟨ret_bool HNE.out, (HB1 _).out⟩
            · have h1' : (y.k == z.k) = false := by simpa using h1
              clear h0 h1 he
              go_wp2_with fail
              go_quiet (fail)
              go_wp2
              go_ret
              exact ⟨ret_bool HNE.out, (HB1 _).out⟩
          · have h0' : (y.m == z.m) = false := by simpa using h0
            clear h0 he
            go_wp2_with fail
            go_quiet (fail)
            go_wp2
            go_ret
            exact ⟨ret_bool HNE.out, (HB1 _).out⟩
      · have hkn : k = n := by omega
        subst hkn
        have heq : true = decide (a = b) := by
          symm
          rw [decide_eq_true_iff]
          have h1 := HU.out.2
          rw [List.take_of_length_le (by rw [HN.out]; exact Nat.le_refl _), List.take_of_length_le (by rw [HM.out]; exact Nat.le_refl _)] at h1
          exact h1
        have HEQ := Lib.hid heq
        clear heq
        go_wp2
        go_ret
        exact ⟨ret_bool HEQ.out, HU.out.1⟩
  · have hne : false = decide (a = b) := by
      symm
      rw [decide_eq_false_iff_not]
      rintro rfl
      exact hnm (HN.out.symm.trans HM.out)
    have HNE := Lib.hid hne
    clear hne
    go_wp2
    go_ret
    exact ⟨ret_bool HNE.out, Below.refl _ _⟩

end Go.Proofs.Ytkgpflobbmagaaa
