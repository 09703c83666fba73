/-
  The walk of pillarboxref17.Ints, where the two are one.
-/
import Derived.Test.YtnfabgbidkddhaaGreatDoorGRB
import Derived.Deep.QuietTactic
namespace Go.Proofs.YtnfabgbidkddhaaGreatDoor
open Go.RowKit
attribute [local go_sem ↓] Go.wp_at_zero Go.wp_at_succ

theorem below_drewNC {B : Nat} {w w' : World} (h : Below B w w') (n : Nat) : Below B w (w'.drewN n) := ⟨h.os, h.tape, h.output, h.size, h.block⟩
set_option maxRecDepth 100000 in
set_option maxHeartbeats 2000000 in
theorem ints_same (w : World) (va vb : Value) (n : Nat) (a : List Int) (hn : a.length = n) (ha : RdS w [] 1 va n (intC a)) (hb : RdS w [] 1 vb n (intC a)) :
    Calls Tryz.prog 22 #[va, vb] w fun e w' => e = .returned (.bool true) ∧ Below w.heap.size w w' := by
  obtain ⟨A, ca, rfl, hca1, hca2⟩ := ha.form
  have hnb : n ≤ 9223372036854775807 := by
    unfold maxLen at hca2
    omega
  obtain ⟨B, cb, rfl, _, _⟩ := hb.form
  have HA := Lib.hid ha
  have HB := Lib.hid hb
  have HN := Lib.hid hn
  clear hn ha hb
  go_enter Tryz.func22, Tryz.ntmps22
  go_wp2_with fail
  go_loopw [5] (fun i wr => ∃ (k : Nat), k ≤ n ∧ i = .int .i64 k ∧ Hid (Below w.heap.size w wr)) (fun i _ => n - (intOf i).toNat)
  case atStart => exact ⟨0, Nat.zero_le _, rfl, Lib.hid (Below.refl _ _)⟩
  case round =>
    obtain ⟨k, hk, rfl, HU⟩ := hrel
    by_cases hlt : k < n
    · have hka : k < a.length := by rw [HN.out]; exact hlt
      have hsz := HU.out.size
      obtain ⟨ba, offa, ca', hva, _, _, hbla, _, hcell1⟩ := HA.out.at_ (by omega)
      injection hva with hva1 hva2 hva3
      subst hva1
      obtain ⟨bb, offb, cb', hvb, _, _, hblb, _, hcell2⟩ := HB.out.at_ (by omega)
      injection hvb with hvb1 hvb2 hvb3
      subst hvb1
      clear hva2 hva3 hvb2 hvb3
      have hge : (intC a)[k]? = some (.int .i64 a[k]) := by simp [intC, hka]
      have d0 : wr.cell? ⟨ba, offa + k, none⟩ = some (.int .i64 a[k]) := (HU.out.cell (p := ⟨ba, offa + k, none⟩) hbla).trans ((hcell1 k (by omega)).trans hge)
      have e0 : wr.cell? ⟨bb, offb + k, none⟩ = some (.int .i64 a[k]) := (HU.out.cell (p := ⟨bb, offb + k, none⟩) hblb).trans ((hcell2 k (by omega)).trans hge)
      clear hcell1 hcell2 hge
      generalize a[k] = z at d0 e0
      go_wp2_with fail
      go_quiet (fail)
      go_wp2
      have HB2 := fun c => Lib.hid (below_drewNC HU.out c)
      refine ⟨?_, by simp [intOf]; omega⟩
      first | exact ⟨k + 1, by omega, by go_num, HB2 nq⟩ | ((repeat apply Exists.intro); exact ⟨⟨k + 1, by omega, by go_num, HB2 nq⟩, rfl⟩)
    · have hkn : k = n := by omega
      subst hkn
      go_wp2
      go_ret
      exact ⟨rfl, HU.out⟩

end Go.Proofs.YtnfabgbidkddhaaGreatDoor
