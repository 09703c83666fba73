/-
  The walks of pillarboxref17.Ranges, pillarboxref17.In and seq.In: are two lists of ranges one; is a number within one of them.
-/
import Derived.Test.YtnfabgbidkddhaaGreatDoorGCB
import Derived.Test.YtnfabgbidkddhaaGreatDoorSeqPartM
import Derived.Laws.StructEq
import Derived.Shelf.SlicesQ.IndexFunc
import Derived.Ground.SlgfProg
import Derived.Deep.QuietTactic
namespace Go.Proofs.YtnfabgbidkddhaaGreatDoor
open Go.Shelf Go.RowKit Go.Lib
attribute [local go_sem ↓] Go.wp_at_zero Go.wp_at_succ

set_option maxRecDepth 100000 in
set_option maxHeartbeats 2000000 in
theorem ranges_any (w : World) (va vb : Value) (a b : List Rg) (ha : RdS w [] 2 va a.length (flatR a)) (hb : RdS w [] 2 vb b.length (flatR b)) :
    Calls Tryz.prog 21 #[va, vb] w fun e w' => e = .returned (.bool (decide (a = b))) ∧ Below w.heap.size w w' := by
  obtain ⟨n, hn⟩ : ∃ n, a.length = n := ⟨_, rfl⟩
  obtain ⟨m, hm⟩ : ∃ m, b.length = m := ⟨_, rfl⟩
  rw [hn] at ha
  rw [hm] at hb
  obtain ⟨A, ca, rfl, hca1, hca2⟩ := ha.form
  have hnb : n ≤ 9223372036854775807 := by
    unfold maxLen at hca2
    omega
  obtain ⟨B, cb, rfl, _, _⟩ := hb.form
  have HA := Lib.hid ha
  have HB := Lib.hid hb
  have HN := Lib.hid hn
  have HM := Lib.hid hm
  clear hn hm ha hb
  go_enter Tryz.func21, Tryz.ntmps21
  by_cases hnm : n = m
  · subst hnm
    go_wp2_with fail
    go_loopw [5] (fun i wr => ∃ (k : Nat), k ≤ n ∧ i = .int .i64 k ∧ Hid (Below w.heap.size w wr ∧ a.take k = b.take k)) (fun i _ => n - (intOf i).toNat)
    case atStart => exact ⟨0, Nat.zero_le _, rfl, ⟨Below.refl _ _, rfl⟩⟩
    case round =>
      obtain ⟨k, hk, rfl, HU⟩ := hrel
      by_cases hlt : k < n
      · have hka : k < a.length := by rw [HN.out]; exact hlt
        have hkb : k < b.length := by rw [HM.out]; exact hlt
        have hsz := HU.out.1.size
        obtain ⟨ba, offa, ca', hva, _, _, hbla, _, hca⟩ := HA.out.at_ (by omega)
        injection hva with hva1 hva2 hva3
        subst hva1
        obtain ⟨bb, offb, cb', hvb, _, _, hblb, _, hcb⟩ := HB.out.at_ (by omega)
        injection hvb with hvb1 hvb2 hvb3
        subst hvb1
        clear hva2 hva3 hvb2 hvb3
        obtain ⟨f0, f1⟩ := flatR_at a k hka
        obtain ⟨g0, g1⟩ := flatR_at b k hkb
        have rda : ∀ j, j < n * 2 → wr.cell? ⟨ba, offa + j, none⟩ = (flatR a)[j]? := fun j hj => (HU.out.1.cell (p := ⟨ba, offa + j, none⟩) hbla).trans (hca j hj)
        have rdb : ∀ j, j < n * 2 → wr.cell? ⟨bb, offb + j, none⟩ = (flatR b)[j]? := fun j hj => (HU.out.1.cell (p := ⟨bb, offb + j, none⟩) hblb).trans (hcb j hj)
        have d0 : wr.cell? ⟨ba, offa + k * 2, none⟩ = some (.int .i64 a[k].1) := (rda (k * 2) (by omega)).trans f0
        have d1 : wr.cell? ⟨ba, offa + k * 2 + 1, none⟩ = some (.int .i64 a[k].2) := (rda (k * 2 + 1) (by omega)).trans f1
        have e0 : wr.cell? ⟨bb, offb + k * 2, none⟩ = some (.int .i64 b[k].1) := (rdb (k * 2) (by omega)).trans g0
        have e1 : wr.cell? ⟨bb, offb + k * 2 + 1, none⟩ = some (.int .i64 b[k].2) := (rdb (k * 2 + 1) (by omega)).trans g1
        clear rda rdb hca hcb f0 f1 g0 g1
        have hlb : ba < wr.heap.size := by omega
        have hlbb : bb < wr.heap.size := by omega
        by_cases he : a[k] = b[k]
        · have hnext : a.take (k + 1) = b.take (k + 1) := by
            rw [List.take_succ_eq_append_getElem hka, List.take_succ_eq_append_getElem hkb, HU.out.2, he]
          rw [he] at d0 d1
          have HNEXT := Lib.hid hnext
          clear hnext he
          generalize b[k] = z at d0 d1 e0 e1
          go_wp2_with fail
          go_quiet (fail)
          go_wp2
          have HB2 := fun c => Lib.hid (show Below w.heap.size w (wr.drewN c) ∧ a.take (k + 1) = b.take (k + 1) from ⟨below_drewN HU.out.1 c, HNEXT.out⟩)
          refine ⟨?_, by simp [intOf]; omega⟩
          first | exact ⟨k + 1, by omega, by go_num, HB2 nq⟩ | ((repeat apply Exists.intro); exact ⟨⟨k + 1, by omega, by go_num, HB2 nq⟩, rfl⟩)
        · have hne : false = decide (a = b) := by
            symm
            rw [decide_eq_false_iff_not]
            rintro rfl
            exact he rfl
          have HNE := Lib.hid hne
          have HB1 := fun c => Lib.hid (below_drewN HU.out.1 c)
          clear hne
          generalize hy : a[k] = y at d0 d1 he
          generalize hz : b[k] = z at e0 e1 he
          clear hy hz
          by_cases h0 : y.1 = z.1
          · have h0' : (y.1 == z.1) = true := by simpa using h0
            have h1 : ¬ y.2 = z.2 := fun h1 => he (Prod.ext h0 h1)
            have h1' : (y.2 == z.2) = false := by simpa using h1
            clear h0 h1 he
            go_wp2_with fail
            go_quiet (fail)
            go_wp2
            go_ret
            exact ⟨ret_bool HNE.out, (HB1 _).out⟩
          · have h0' : (y.1 == z.1) = false := by simpa using h0
            clear h0 he
            go_wp2_with fail
            go_quiet (fail)
            go_wp2
            go_ret
            exact ⟨ret_bool HNE.out, (HB1 _).out⟩
      · have hkn : k = n := by omega
        subst hkn
        have heq : true = decide (a = b) := by
          symm
          rw [decide_eq_true_iff]
          have h1 := HU.out.2
          rw [List.take_of_length_le (by rw [HN.out]; exact Nat.le_refl _), List.take_of_length_le (by rw [HM.out]; exact Nat.le_refl _)] at h1
          exact h1
        have HEQ := Lib.hid heq
        clear heq
        go_wp2
        go_ret
        exact ⟨ret_bool HEQ.out, HU.out.1⟩
  · have hne : false = decide (a = b) := by
      symm
      rw [decide_eq_false_iff_not]
      rintro rfl
      exact hnm (HN.out.symm.trans HM.out)
    have HNE := Lib.hid hne
    clear hne
    go_wp2
    go_ret
    exact ⟨ret_bool HNE.out, Below.refl _ _⟩

def inR (x : Int) (r : Rg) : Bool := decide (r.1 ≤ x) && decide (x ≤ r.2)
def inL (l : List Rg) (x : Int) : Bool := l.any (inR x)
theorem inL_has (l : List Rg) (x : Int) : inL l x = true ↔ Has l x := by
  unfold inL Has
  rw [List.any_eq_true]
  simp [inR]

set_option maxRecDepth 100000 in
set_option maxHeartbeats 1000000 in
theorem refIn_any (w : World) (v : Value) (n : Nat) (l : List Rg) (x : Int) (hn : l.length = n) (hr : RdS w [] 2 v n (flatR l)) :
    Calls Tryz.prog 81 #[v, .int .i64 x] w fun e w' => e = .returned (.bool (inL l x)) ∧ w = w' := by
  obtain ⟨A, cap, rfl, _, hcap⟩ := hr.form
  have hmb : n ≤ 9223372036854775807 := by
    unfold maxLen at hcap
    omega
  obtain ⟨ans, hans⟩ : ∃ ans, inL l x = ans := ⟨_, rfl⟩
  rw [hans]
  have HR := Lib.hid hr
  have HN := Lib.hid hn
  have HANS := Lib.hid hans
  clear hr hn hans
  go_enter Tryz.func81, Tryz.ntmps81
  go_wp2
  go_loop [5] (fun i => ∃ k : Nat, k ≤ n ∧ i = .int .i64 k ∧ Hid (inL (l.take k) x = false)) (fun i => n - (intOf i).toNat)
  case atStart => exact ⟨0, Nat.zero_le _, rfl, Lib.hid rfl⟩
  case round =>
    obtain ⟨k, hk, rfl, HU⟩ := hrel
    by_cases hlt : k < n
    · have hke : k < l.length := by rw [HN.out]; exact hlt
      obtain ⟨b, off, cap2, hva, _, _, _, _, hat⟩ := HR.out.at_ (by omega)
      injection hva with hva1 _ hva3
      subst hva1
      subst hva3
      obtain ⟨f0, f1⟩ := flatR_at l k hke
      have d0 := (hat (k * 2) (by omega)).trans f0
      have d1 : w.cell? ⟨b, off + k * 2 + 1, none⟩ = _ := (hat (k * 2 + 1) (by omega)).trans f1
      clear hat f0 f1
      have hsucc : inL (l.take (k + 1)) x = inR x l[k] := by
        unfold inL at HU ⊢
        rw [List.take_succ_eq_append_getElem hke, List.any_append, HU.out]
        simp
      have hmem := List.getElem_mem hke
      generalize l[k] = r at d0 d1 hsucc hmem
      obtain ⟨a, b⟩ := r
      simp only at d0 d1
      by_cases ha : a ≤ x
      · by_cases hb : x ≤ b
        · have ht : ans = true := by
            rw [← HANS.out]
            exact List.any_eq_true.2 ⟨_, hmem, by simp [inR, ha, hb]⟩
          subst ht
          clear hsucc hmem HANS
          go_wp2
          go_ret
          exact ⟨rfl, rfl⟩
        · have HU2 := Lib.hid (show inL (l.take (k + 1)) x = false by rw [hsucc]; simp [inR, hb])
          clear hsucc hmem
          go_wp2
          go_round
          case rel => exact ⟨k + 1, by omega, by go_num, HU2⟩
          case measure => simp [intOf]; omega
      · have HU2 := Lib.hid (show inL (l.take (k + 1)) x = false by rw [hsucc]; simp [inR, ha])
        clear hsucc hmem
        go_wp2
        go_round
        case rel => exact ⟨k + 1, by omega, by go_num, HU2⟩
        case measure => simp [intOf]; omega
    · have hkn : k = n := by omega
      subst hkn
      have hf : ans = false := by
        rw [← HANS.out]
        have h1 := HU.out
        rw [List.take_of_length_le (by rw [HN.out]; exact Nat.le_refl _)] at h1
        exact h1
      subst hf
      go_wp2
      go_ret
      exact ⟨rfl, rfl⟩

shelf_lay_g SlLaysH0.n8 Slgf 8 at Tryz 61 as Tryz.containsR

theorem inPred_any (x : Int) (B : Nat) (w : World) (hB : w.cell? ⟨B, 0, none⟩ = some (.int .i64 x)) :
    PredBelow Tryz.prog 99 #[.pointer (some ⟨B, 0, none⟩)] (fun r => .agg (encR r).toArray) (inR x) w := by
  intro W r hb
  have hlt := World.block_lt_of_cell? _ _ hB
  have hc := (hb.cell (p := ⟨B, 0, none⟩) hlt).trans hB
  have hlt2 : B < W.heap.size := Nat.lt_of_lt_of_le hlt hb.size
  obtain ⟨a, b⟩ := r
  show Calls Tryz.prog 99 #[.agg #[.int .i64 a, .int .i64 b], .pointer (some ⟨B, 0, none⟩)] W _
  have hc2 : (W.alloc (.cells #[.int .i64 a, .int .i64 b] 75)).cell? ⟨B, 0, none⟩ = some (.int .i64 x) := (World.cell?_alloc_lt W _ _ hlt2).trans hc
  have HB := Lib.hid hb
  unfold inR
  clear hb hc hB
  by_cases ha : a ≤ x
  · by_cases hb : x ≤ b
    · have e : (decide (a ≤ x) && decide (x ≤ b)) = true := by simp [ha, hb]
      simp only [e]
      clear e
      go_enter Tryz.func99, Tryz.ntmps99
      go_wp2
      go_ret
      exact ⟨rfl, HB.out.alloc HB.out.size _⟩
    · have e : (decide (a ≤ x) && decide (x ≤ b)) = false := by simp [hb]
      simp only [e]
      clear e
      go_enter Tryz.func99, Tryz.ntmps99
      go_wp2
      go_ret
      exact ⟨rfl, HB.out.alloc HB.out.size _⟩
  · have e : (decide (a ≤ x) && decide (x ≤ b)) = false := by simp [ha]
    simp only [e]
    clear e
    go_enter Tryz.func99, Tryz.ntmps99
    go_wp2
    go_ret
    exact ⟨rfl, HB.out.alloc HB.out.size _⟩

theorem below_all {B : Nat} {w w' : World} (h : Below w'.heap.size w' w) (hB : B ≤ w'.heap.size) : Below B w' w := h.mono hB

end Go.Proofs.YtnfabgbidkddhaaGreatDoor
