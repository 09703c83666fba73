/-
  The walk of the reference's Terms, where the two lists are one.
-/
import Derived.Test.YtnfabgbidkddhaaGreatDoorHoldRightM
import Derived.Test.YtnfabgbidkddhaaGreatDoorIntsCM
import Derived.Test.YtnfabgbidkddhaaGreatDoorGRA
namespace Go.Proofs.YtnfabgbidkddhaaGreatDoor
open Go.RowKit
attribute [local go_sem ↓] Go.wp_at_zero Go.wp_at_succ

abbrev zs6 : Array Value := #[.int .i64 0, .int .i64 0, .string ⟨#[]⟩, .string ⟨#[]⟩, .slice none 0 0, .slice none 0 0]
def set6 (W : World) (X : Nat) (v0 v1 v2 v3 v4 v5 : Value) : World := (((((W.setCell ⟨X, 0, none⟩ v0).setCell ⟨X, 1, none⟩ v1).setCell ⟨X, 2, none⟩ v2).setCell ⟨X, 3, none⟩ v3).setCell ⟨X, 4, none⟩ v4).setCell ⟨X, 5, none⟩ v5
theorem chg6 (W : World) (X : Nat) (v0 v1 v2 v3 v4 v5 : Value) : Chg [X] W (set6 W X v0 v1 v2 v3 v4 v5) :=
  ((((((Chg.refl [X] W).set (p := ⟨X, 0, none⟩) (.inl (by simp)) v0).set (p := ⟨X, 1, none⟩) (.inl (by simp)) v1).set (p := ⟨X, 2, none⟩) (.inl (by simp)) v2).set (p := ⟨X, 3, none⟩) (.inl (by simp)) v3).set (p := ⟨X, 4, none⟩) (.inl (by simp)) v4).set (p := ⟨X, 5, none⟩) (.inl (by simp)) v5
theorem below6 {B : Nat} {w W : World} (h : Below B w W) {X : Nat} (hX : B ≤ X) (v0 v1 v2 v3 v4 v5 : Value) : Below B w (set6 W X v0 v1 v2 v3 v4 v5) :=
  (((((h.setCell (p := ⟨X, 0, none⟩) hX v0).setCell (p := ⟨X, 1, none⟩) hX v1).setCell (p := ⟨X, 2, none⟩) hX v2).setCell (p := ⟨X, 3, none⟩) hX v3).setCell (p := ⟨X, 4, none⟩) hX v4).setCell (p := ⟨X, 5, none⟩) hX v5
theorem blk6 {W : World} {X Y : Nat} {e : TypeId} {ys : Array Value} (hX : Blk W X 57 zs6) (hY : Blk W Y e ys) (hne : X ≠ Y) (v0 v1 v2 v3 v4 v5 : Value) : Blk (set6 W X v0 v1 v2 v3 v4 v5) X 57 #[v0, v1, v2, v3, v4, v5] ∧ Blk (set6 W X v0 v1 v2 v3 v4 v5) Y e ys :=
  ⟨(((((hX.set 0 v0).set 1 v1).set 2 v2).set 3 v3).set 4 v4).set 5 v5, hY.chg (chg6 W X v0 v1 v2 v3 v4 v5) (by simpa using fun e => hne e.symm)⟩

set_option maxRecDepth 100000 in
set_option maxHeartbeats 4000000 in
theorem terms_same (w : World) (va vb : Value) (f : Out) (ha : FAt w va f) (hb : FAt w vb f) :
    Calls Tryz.prog 13 #[va, vb] w fun e w' => e = .returned (.bool true) ∧ Below w.heap.size w w' := by
  obtain ⟨A, ca, hfa, _, hca⟩ := ha.form
  obtain ⟨B, cb, hfb, _, hcb⟩ := hb.form
  have HA := Lib.hid ha
  have HBB := Lib.hid hb
  obtain ⟨N, hN⟩ : ∃ N, f.length = N := ⟨_, rfl⟩
  have HN := Lib.hid hN
  rw [hN] at hfa hfb
  have hNb : N ≤ 9223372036854775807 := by
    unfold maxLen at hca
    omega
  subst hfa hfb
  clear ha hb hN hca hcb
  go_enter Tryz.func13, Tryz.ntmps13
  go_wp2_with fail
  go_loopw [5] (fun x wr => ∃ i : Nat, i ≤ N ∧ x = .int .i64 i ∧ Hid (Below w.heap.size w wr)) (fun x _ => N - (intOf x).toNat)
  case atStart => exact ⟨0, Nat.zero_le _, rfl, Lib.hid (Below.refl _ _)⟩
  case round =>
    obtain ⟨i, hi, rfl, HB⟩ := hrel
    by_cases hlt : i < N
    · have hlf : i < f.length := by rw [HN.out]; exact hlt
      obtain ⟨b, o, c1, sv, kv, F, hv1, hbl, d0, d1, d2, d3, d4, d5, hok⟩ := HA.out.at_ i hlf
      obtain ⟨d, s, c2, sv2, kv2, F2, hv2, hdl, g0, g1, g2, g3, g4, g5, hok2⟩ := HBB.out.at_ i hlf
      injection hv1 with hv1 hv1b hv1c
      injection hv2 with hv2 hv2b hv2c
      subst hv1 hv1c hv2 hv2c
      clear hv1b hv2b
      obtain ⟨⟨_, hs1⟩, ⟨_, hk1, _⟩⟩ := hok
      obtain ⟨⟨_, hs2⟩, ⟨_, hk2, _⟩⟩ := hok2
      obtain ⟨t, ht⟩ : ∃ t, f[i] = t := ⟨_, rfl⟩
      rw [ht] at d0 d1 d2 d3 g0 g1 g2 g3 hs1 hk1 hs2 hk2
      obtain ⟨tk, tn, tm, tx, ts, tl⟩ := t
      obtain ⟨P1, q1, rfl, _, _⟩ := hs1.form
      obtain ⟨P2, q2, rfl, _, _⟩ := hk1.form
      obtain ⟨R1, r1, rfl, _, _⟩ := hs2.form
      obtain ⟨R2, r2, rfl, _, _⟩ := hk2.form
      have hRa := fun W (hW : Below w.heap.size w W) => ranges_any W _ _ ts ts ((hs1.chg (Chg.of_below hW []) (by simp)).reads [] (by simp)) ((hs2.chg (Chg.of_below hW []) (by simp)).reads [] (by simp))
      have hIn := fun W (hW : Below w.heap.size w W) => ints_same W _ _ tl.length tl rfl ((hk1.chg (Chg.of_below hW []) (by simp)).reads [] (by simp)) ((hk2.chg (Chg.of_below hW []) (by simp)).reads [] (by simp))
      simp only [decide_true] at hRa
      have HRA := Lib.hid hRa
      have HIN := Lib.hid hIn
      simp only at d0 d1 d2 d3 d4 d5 g0 g1 g2 g3 g4 g5
      obtain ⟨p1, hp1⟩ : ∃ n, ts.length = n := ⟨_, rfl⟩
      obtain ⟨p2, hp2⟩ : ∃ n, tl.length = n := ⟨_, rfl⟩
      rw [hp1] at d4 g4 HRA
      rw [hp2] at d5 g5 HIN
      have hS : ∀ V, Below wr.heap.size wr V → V.cell? ⟨b, o + i * 6, none⟩ = some (.int .i64 tk) ∧ V.cell? ⟨b, o + i * 6 + 1, none⟩ = some (.int .i64 tn) ∧ V.cell? ⟨b, o + i * 6 + 2, none⟩ = some (.string tm) ∧ V.cell? ⟨b, o + i * 6 + 3, none⟩ = some (.string tx) ∧ V.cell? ⟨b, o + i * 6 + 4, none⟩ = some (.slice P1 p1 q1) ∧ V.cell? ⟨b, o + i * 6 + 5, none⟩ = some (.slice P2 p2 q2) ∧ V.cell? ⟨d, s + i * 6, none⟩ = some (.int .i64 tk) ∧ V.cell? ⟨d, s + i * 6 + 1, none⟩ = some (.int .i64 tn) ∧ V.cell? ⟨d, s + i * 6 + 2, none⟩ = some (.string tm) ∧ V.cell? ⟨d, s + i * 6 + 3, none⟩ = some (.string tx) ∧ V.cell? ⟨d, s + i * 6 + 4, none⟩ = some (.slice R1 p1 r1) ∧ V.cell? ⟨d, s + i * 6 + 5, none⟩ = some (.slice R2 p2 r2) := fun V hV => by
        have hV2 := HB.out.trans (hV.mono HB.out.size)
        exact ⟨(hV2.cell (p := ⟨b, o + i * 6, none⟩) hbl).trans d0, (hV2.cell (p := ⟨b, o + i * 6 + 1, none⟩) hbl).trans d1, (hV2.cell (p := ⟨b, o + i * 6 + 2, none⟩) hbl).trans d2, (hV2.cell (p := ⟨b, o + i * 6 + 3, none⟩) hbl).trans d3, (hV2.cell (p := ⟨b, o + i * 6 + 4, none⟩) hbl).trans d4, (hV2.cell (p := ⟨b, o + i * 6 + 5, none⟩) hbl).trans d5, (hV2.cell (p := ⟨d, s + i * 6, none⟩) hdl).trans g0, (hV2.cell (p := ⟨d, s + i * 6 + 1, none⟩) hdl).trans g1, (hV2.cell (p := ⟨d, s + i * 6 + 2, none⟩) hdl).trans g2, (hV2.cell (p := ⟨d, s + i * 6 + 3, none⟩) hdl).trans g3, (hV2.cell (p := ⟨d, s + i * 6 + 4, none⟩) hdl).trans g4, (hV2.cell (p := ⟨d, s + i * 6 + 5, none⟩) hdl).trans g5⟩
      have HSA := Lib.hid hS
      have ii0 : (0 : Int) ≤ (i : Int) := by omega
      have ii1 : (i : Int) < (N : Int) := by omega
      clear hS d0 d1 d2 d3 d4 d5 g0 g1 g2 g3 g4 g5 hRa hIn hs1 hk1 hs2 hk2 ht hp1 hp2
      go_upto_region 6 with (fail)
      refine wp_region_held_drew (S := (fun V => V.cell? ⟨b, o + i * 6, none⟩ = some (.int .i64 tk) ∧ V.cell? ⟨b, o + i * 6 + 1, none⟩ = some (.int .i64 tn) ∧ V.cell? ⟨b, o + i * 6 + 2, none⟩ = some (.string tm) ∧ V.cell? ⟨b, o + i * 6 + 3, none⟩ = some (.string tx) ∧ V.cell? ⟨b, o + i * 6 + 4, none⟩ = some (.slice P1 p1 q1) ∧ V.cell? ⟨b, o + i * 6 + 5, none⟩ = some (.slice P2 p2 q2) ∧ V.cell? ⟨d, s + i * 6, none⟩ = some (.int .i64 tk) ∧ V.cell? ⟨d, s + i * 6 + 1, none⟩ = some (.int .i64 tn) ∧ V.cell? ⟨d, s + i * 6 + 2, none⟩ = some (.string tm) ∧ V.cell? ⟨d, s + i * 6 + 3, none⟩ = some (.string tx) ∧ V.cell? ⟨d, s + i * 6 + 4, none⟩ = some (.slice R1 p1 r1) ∧ V.cell? ⟨d, s + i * 6 + 5, none⟩ = some (.slice R2 p2 r2))) (by kernel_rfl) (HSA.out _ ⟨rfl, rfl, rfl, Nat.le_refl _, fun _ _ => rfl⟩) (fun hHeld => ?_)
      refine wpAnyH_take (i := 0) (oi := _) (v := .slice (some ⟨b, o, none⟩) N ca) rfl (by kernel_rfl) (by kernel_rfl) (by kernel_rfl) (fun _ _ _ h => h) (Or.inl ⟨by rfl, ?_⟩) (by trivial) ?_
      · intro w _
        go_simp
      simp only [Act.put, List.setIfInBounds_toArray, List.set_cons_zero, List.set_cons_succ, List.getElem_toArray, List.getElem_cons_zero]
      refine wpAnyH_take (i := 1) (oi := _) (v := .int .i64 i) rfl (by kernel_rfl) (by kernel_rfl) (by kernel_rfl) (fun _ _ _ h => h) (Or.inl ⟨by rfl, ?_⟩) (by trivial) ?_
      · intro w _
        go_simp
      simp only [Act.put, List.setIfInBounds_toArray, List.set_cons_zero, List.set_cons_succ, List.getElem_toArray, List.getElem_cons_succ, List.getElem_cons_zero]
      refine wpAnyH_take (i := 2) (oi := _) (v := .pointer (some ⟨b, o + i * 6, none⟩)) rfl (by kernel_rfl) (by kernel_rfl) (by kernel_rfl) (fun _ _ _ h => h) (Or.inl ⟨by rfl, ?_⟩) (by trivial) ?_
      · intro w _
        go_simp
      simp only [Act.put, List.setIfInBounds_toArray, List.set_cons_zero, List.set_cons_succ, List.getElem_toArray, List.getElem_cons_succ, List.getElem_cons_zero]
      refine wpAnyH_take (i := 3) (oi := _) (v := .agg #[.int .i64 tk, .int .i64 tn, .string tm, .string tx, .slice P1 p1 q1, .slice P2 p2 q2]) rfl (by kernel_rfl) (by kernel_rfl) (by kernel_rfl) (fun _ _ _ h => h) (Or.inl ⟨by rfl, ?_⟩) (by trivial) ?_
      · intro V hV
        obtain ⟨s0, s1, s2, s3, s4, s5, s6, s7, s8, s9, s10, s11⟩ := hV
        go_simp
      simp only [Act.put, List.setIfInBounds_toArray, List.set_cons_zero, List.set_cons_succ, List.getElem_toArray, List.getElem_cons_succ, List.getElem_cons_zero]
      refine wpAnyH_take (i := 4) (oi := _) (v := .slice (some ⟨d, s, none⟩) N cb) rfl (by kernel_rfl) (by kernel_rfl) (by kernel_rfl) (fun _ _ _ h => h) (Or.inl ⟨by rfl, ?_⟩) (by trivial) ?_
      · intro w _
        go_simp
      simp only [Act.put, List.setIfInBounds_toArray, List.set_cons_zero, List.set_cons_succ, List.getElem_toArray, List.getElem_cons_succ, List.getElem_cons_zero]
      refine wpAnyH_take (i := 5) (oi := _) (v := .int .i64 i) rfl (by kernel_rfl) (by kernel_rfl) (by kernel_rfl) (fun _ _ _ h => h) (Or.inl ⟨by rfl, ?_⟩) (by trivial) ?_
      · intro w _
        go_simp
      simp only [Act.put, List.setIfInBounds_toArray, List.set_cons_zero, List.set_cons_succ, List.getElem_toArray, List.getElem_cons_succ, List.getElem_cons_zero]
      refine wpAnyH_take (i := 6) (oi := _) (v := .pointer (some ⟨d, s + i * 6, none⟩)) rfl (by kernel_rfl) (by kernel_rfl) (by kernel_rfl) (fun _ _ _ h => h) (Or.inl ⟨by rfl, ?_⟩) (by trivial) ?_
      · intro w _
        go_simp
      simp only [Act.put, List.setIfInBounds_toArray, List.set_cons_zero, List.set_cons_succ, List.getElem_toArray, List.getElem_cons_succ, List.getElem_cons_zero]
      refine wpAnyH_take (i := 7) (oi := _) (v := .agg #[.int .i64 tk, .int .i64 tn, .string tm, .string tx, .slice R1 p1 r1, .slice R2 p2 r2]) rfl (by kernel_rfl) (by kernel_rfl) (by kernel_rfl) (fun _ _ _ h => h) (Or.inl ⟨by rfl, ?_⟩) (by trivial) ?_
      · intro V hV
        obtain ⟨s0, s1, s2, s3, s4, s5, s6, s7, s8, s9, s10, s11⟩ := hV
        go_simp
      simp only [Act.put, List.setIfInBounds_toArray, List.set_cons_zero, List.set_cons_succ, List.getElem_toArray, List.getElem_cons_succ, List.getElem_cons_zero]
      have HZ1 := Lib.hid (show Below wr.heap.size wr (wr.drew.alloc (.cells #[.int .i64 0, .int .i64 0, .string ⟨#[]⟩, .string ⟨#[]⟩, .slice none 0 0, .slice none 0 0] 57)) from belowD (show Below wr.heap.size wr wr.drew from ⟨rfl, rfl, rfl, Nat.le_refl _, fun _ _ => rfl⟩) ((Below.refl _ _).alloc (Nat.le_refl _) _))
      have HZ2 := Lib.hid (show Below wr.heap.size wr ((wr.drew.alloc (.cells #[.int .i64 0, .int .i64 0, .string ⟨#[]⟩, .string ⟨#[]⟩, .slice none 0 0, .slice none 0 0] 57)).alloc (.cells #[.int .i64 0, .int .i64 0, .string ⟨#[]⟩, .string ⟨#[]⟩, .slice none 0 0, .slice none 0 0] 57)) from HZ1.out.alloc (HZ1.out.size) _)
      have HZ3 := Lib.hid (show Below wr.heap.size wr ((wr.alloc (.cells #[.int .i64 0, .int .i64 0, .string ⟨#[]⟩, .string ⟨#[]⟩, .slice none 0 0, .slice none 0 0] 57)).alloc (.cells #[.int .i64 0, .int .i64 0, .string ⟨#[]⟩, .string ⟨#[]⟩, .slice none 0 0, .slice none 0 0] 57)).drew from HZ2.out)
      have HBX : Hid (Blk ((wr.alloc (.cells #[.int .i64 0, .int .i64 0, .string ⟨#[]⟩, .string ⟨#[]⟩, .slice none 0 0, .slice none 0 0] 57)).alloc (.cells #[.int .i64 0, .int .i64 0, .string ⟨#[]⟩, .string ⟨#[]⟩, .slice none 0 0, .slice none 0 0] 57)).drew wr.heap.size 57 zs6) := Lib.hid (((Blk.new wr _ _).alloc _).heap rfl)
      have HBY : Hid (Blk ((wr.alloc (.cells #[.int .i64 0, .int .i64 0, .string ⟨#[]⟩, .string ⟨#[]⟩, .slice none 0 0, .slice none 0 0] 57)).alloc (.cells #[.int .i64 0, .int .i64 0, .string ⟨#[]⟩, .string ⟨#[]⟩, .slice none 0 0, .slice none 0 0] 57)).drew (wr.heap.size + 1) 57 zs6) := Lib.hid (Blk.heap (w := (wr.alloc (.cells #[.int .i64 0, .int .i64 0, .string ⟨#[]⟩, .string ⟨#[]⟩, .slice none 0 0, .slice none 0 0] 57)).alloc (.cells #[.int .i64 0, .int .i64 0, .string ⟨#[]⟩, .string ⟨#[]⟩, .slice none 0 0, .slice none 0 0] 57)) (by have := Blk.new (wr.alloc (.cells #[.int .i64 0, .int .i64 0, .string ⟨#[]⟩, .string ⟨#[]⟩, .slice none 0 0, .slice none 0 0] 57)) 57 zs6; simpa using this) rfl)
      refine wpAnyH_ready (rs := [8, 9]) (by kernel_rfl) (by simp) ?_
      refine AllReadyH.cons (o := _) rfl (fun K hK => ?_) (AllReadyH.cons (o := _) rfl (fun K hK => ?_) AllReadyH.nil)
      · go_simp
        go_wp2_with fail
        refine hK.out _ _ (HSA.out _ (HZ1.out)) (fun _ => ?_)
        clear hK K
        refine wpAnyH_ready (rs := [9]) (by kernel_rfl) (by simp) ?_
        refine AllReadyH.cons (o := _) rfl (fun K hK => ?_) AllReadyH.nil
        go_simp
        go_wp2_with fail
        refine hK.out _ _ (HSA.out _ (HZ2.out)) (fun _ => ?_)
        clear hK K
        have HX := Lib.hid HBX.out
        have HY := Lib.hid HBY.out
        have HW2 := Lib.hid HZ3.out
        generalize ((wr.alloc (.cells #[.int .i64 0, .int .i64 0, .string ⟨#[]⟩, .string ⟨#[]⟩, .slice none 0 0, .slice none 0 0] 57)).alloc (.cells #[.int .i64 0, .int .i64 0, .string ⟨#[]⟩, .string ⟨#[]⟩, .slice none 0 0, .slice none 0 0] 57)).drew = W2 at HX HY HW2 ⊢
        obtain ⟨Y, hYe⟩ : ∃ Y, wr.heap.size + 1 = Y := ⟨_, rfl⟩
        obtain ⟨X, hXe⟩ : ∃ X, wr.heap.size = X := ⟨_, rfl⟩
        have HXl := Lib.hid (show wr.heap.size ≤ X by omega)
        have HYl := Lib.hid (show wr.heap.size ≤ Y by omega)
        have HXY := Lib.hid (show X ≠ Y by omega)
        rw [hYe] at HY
        rw [hXe] at HX
        rw [hYe, hXe]
        clear hYe hXe
        have m0 := HX.out.cell 0
        have n0 := HX.out.frozen 0
        have m1 := HX.out.cell 1
        have n1 := HX.out.frozen 1
        have m2 := HX.out.cell 2
        have n2 := HX.out.frozen 2
        have m3 := HX.out.cell 3
        have n3 := HX.out.frozen 3
        have m4 := HX.out.cell 4
        have n4 := HX.out.frozen 4
        have m5 := HX.out.cell 5
        have n5 := HX.out.frozen 5
        refine wpAnyH_ready (rs := [10]) (by kernel_rfl) (by simp) ?_
        refine AllReadyH.cons (o := _) rfl (fun K hK => ?_) AllReadyH.nil
        go_simp
        go_wp2_with fail
        refine hK.out _ _ (HSA.out _ (below6 HW2.out HXl.out (.int .i64 tk) (.int .i64 tn) (.string tm) (.string tx) (.slice P1 p1 q1) (.slice P2 p2 q2))) (fun _ => ?_)
        clear hK K
        change wpAnyH _ _ _ _ _ _ _ _ (set6 W2 X (.int .i64 tk) (.int .i64 tn) (.string tm) (.string tx) (.slice P1 p1 q1) (.slice P2 p2 q2))
        clear m0 n0 m1 n1 m2 n2 m3 n3 m4 n4 m5 n5
        have HW3 := Lib.hid (below6 HW2.out HXl.out (.int .i64 tk) (.int .i64 tn) (.string tm) (.string tx) (.slice P1 p1 q1) (.slice P2 p2 q2))
        have H6 := Lib.hid (blk6 HX.out HY.out HXY.out (.int .i64 tk) (.int .i64 tn) (.string tm) (.string tx) (.slice P1 p1 q1) (.slice P2 p2 q2))
        generalize set6 W2 X (.int .i64 tk) (.int .i64 tn) (.string tm) (.string tx) (.slice P1 p1 q1) (.slice P2 p2 q2) = W3 at HW3 H6 ⊢
        have m0 := H6.out.2.cell 0
        have n0 := H6.out.2.frozen 0
        have m1 := H6.out.2.cell 1
        have n1 := H6.out.2.frozen 1
        have m2 := H6.out.2.cell 2
        have n2 := H6.out.2.frozen 2
        have m3 := H6.out.2.cell 3
        have n3 := H6.out.2.frozen 3
        have m4 := H6.out.2.cell 4
        have n4 := H6.out.2.frozen 4
        have m5 := H6.out.2.cell 5
        have n5 := H6.out.2.frozen 5
        refine wpAnyH_ready (rs := [11]) (by kernel_rfl) (by simp) ?_
        refine AllReadyH.cons (o := _) rfl (fun K hK => ?_) AllReadyH.nil
        go_simp
        go_wp2_with fail
        refine hK.out _ _ (HSA.out _ (below6 HW3.out HYl.out (.int .i64 tk) (.int .i64 tn) (.string tm) (.string tx) (.slice R1 p1 r1) (.slice R2 p2 r2))) (fun _ => ?_)
        clear hK K
        change wpAnyH _ _ _ _ _ _ _ _ (set6 W3 Y (.int .i64 tk) (.int .i64 tn) (.string tm) (.string tx) (.slice R1 p1 r1) (.slice R2 p2 r2))
        clear m0 n0 m1 n1 m2 n2 m3 n3 m4 n4 m5 n5
        have HW4 := Lib.hid (below6 HW3.out HYl.out (.int .i64 tk) (.int .i64 tn) (.string tm) (.string tx) (.slice R1 p1 r1) (.slice R2 p2 r2))
        have H7 := Lib.hid (blk6 H6.out.2 H6.out.1 HXY.out.symm (.int .i64 tk) (.int .i64 tn) (.string tm) (.string tx) (.slice R1 p1 r1) (.slice R2 p2 r2))
        generalize set6 W3 Y (.int .i64 tk) (.int .i64 tn) (.string tm) (.string tx) (.slice R1 p1 r1) (.slice R2 p2 r2) = W4 at HW4 H7 ⊢
        refine wpAnyH_done (by kernel_rfl) ?_ _
        have HB4 := Lib.hid (HB.out.trans (HW4.out.mono HB.out.size))
        have e1 : (tk != tk) = false := by simp
        have e2 : (tn != tn) = false := by simp
        have e3 : (tm.toList != tm.toList) = false := by simp
        have e4 : (tx.toList != tx.toList) = false := by simp
        have ya0 := H7.out.2.cell 0
        have yb0 := H7.out.1.cell 0
        have ya1 := H7.out.2.cell 1
        have yb1 := H7.out.1.cell 1
        have ya2 := H7.out.2.cell 2
        have yb2 := H7.out.1.cell 2
        have ya3 := H7.out.2.cell 3
        have yb3 := H7.out.1.cell 3
        have ya4 := H7.out.2.cell 4
        have yb4 := H7.out.1.cell 4
        have ya5 := H7.out.2.cell 5
        have yb5 := H7.out.1.cell 5
        go_wp2_with (first
          | (go_at_call 21; refine (HRA.out _ HB4.out).mono ?_; rintro e w5 ⟨rfl, hb5⟩; have za := (hb5.cell (p := ⟨X, 5, none⟩) H7.out.2.lt).trans ya5; have zb := (hb5.cell (p := ⟨Y, 5, none⟩) H7.out.1.lt).trans yb5; have HB5 := Lib.hid (HB4.out.trans (hb5.mono HB4.out.size)); clear hb5)
          | (go_at_call 22; refine (HIN.out _ HB5.out).mono ?_; rintro e w6 ⟨rfl, hb6⟩; have HB6 := Lib.hid (HB5.out.trans (hb6.mono HB5.out.size)); clear hb6)
          | fail)
        refine ⟨?_, by simp [intOf]; omega⟩
        first | exact ⟨i + 1, by omega, by go_num, HB6⟩ | ((repeat apply Exists.intro); exact ⟨⟨i + 1, by omega, by go_num, HB6⟩, rfl⟩)
      · go_simp
        go_wp2_with fail
        refine hK.out _ _ (HSA.out _ (HZ1.out)) (fun _ => ?_)
        clear hK K
        refine wpAnyH_ready (rs := [8]) (by kernel_rfl) (by simp) ?_
        refine AllReadyH.cons (o := _) rfl (fun K hK => ?_) AllReadyH.nil
        go_simp
        go_wp2_with fail
        refine hK.out _ _ (HSA.out _ (HZ2.out)) (fun _ => ?_)
        clear hK K
        have HX := Lib.hid HBX.out
        have HY := Lib.hid HBY.out
        have HW2 := Lib.hid HZ3.out
        generalize ((wr.alloc (.cells #[.int .i64 0, .int .i64 0, .string ⟨#[]⟩, .string ⟨#[]⟩, .slice none 0 0, .slice none 0 0] 57)).alloc (.cells #[.int .i64 0, .int .i64 0, .string ⟨#[]⟩, .string ⟨#[]⟩, .slice none 0 0, .slice none 0 0] 57)).drew = W2 at HX HY HW2 ⊢
        obtain ⟨Y, hYe⟩ : ∃ Y, wr.heap.size + 1 = Y := ⟨_, rfl⟩
        obtain ⟨X, hXe⟩ : ∃ X, wr.heap.size = X := ⟨_, rfl⟩
        have HXl := Lib.hid (show wr.heap.size ≤ X by omega)
        have HYl := Lib.hid (show wr.heap.size ≤ Y by omega)
        have HXY := Lib.hid (show X ≠ Y by omega)
        rw [hYe] at HY
        rw [hXe] at HX
        rw [hYe, hXe]
        clear hYe hXe
        have m0 := HY.out.cell 0
        have n0 := HY.out.frozen 0
        have m1 := HY.out.cell 1
        have n1 := HY.out.frozen 1
        have m2 := HY.out.cell 2
        have n2 := HY.out.frozen 2
        have m3 := HY.out.cell 3
        have n3 := HY.out.frozen 3
        have m4 := HY.out.cell 4
        have n4 := HY.out.frozen 4
        have m5 := HY.out.cell 5
        have n5 := HY.out.frozen 5
        refine wpAnyH_ready (rs := [10]) (by kernel_rfl) (by simp) ?_
        refine AllReadyH.cons (o := _) rfl (fun K hK => ?_) AllReadyH.nil
        go_simp
        go_wp2_with fail
        refine hK.out _ _ (HSA.out _ (below6 HW2.out HYl.out (.int .i64 tk) (.int .i64 tn) (.string tm) (.string tx) (.slice P1 p1 q1) (.slice P2 p2 q2))) (fun _ => ?_)
        clear hK K
        change wpAnyH _ _ _ _ _ _ _ _ (set6 W2 Y (.int .i64 tk) (.int .i64 tn) (.string tm) (.string tx) (.slice P1 p1 q1) (.slice P2 p2 q2))
        clear m0 n0 m1 n1 m2 n2 m3 n3 m4 n4 m5 n5
        have HW3 := Lib.hid (below6 HW2.out HYl.out (.int .i64 tk) (.int .i64 tn) (.string tm) (.string tx) (.slice P1 p1 q1) (.slice P2 p2 q2))
        have H6 := Lib.hid (blk6 HY.out HX.out HXY.out.symm (.int .i64 tk) (.int .i64 tn) (.string tm) (.string tx) (.slice P1 p1 q1) (.slice P2 p2 q2))
        generalize set6 W2 Y (.int .i64 tk) (.int .i64 tn) (.string tm) (.string tx) (.slice P1 p1 q1) (.slice P2 p2 q2) = W3 at HW3 H6 ⊢
        have m0 := H6.out.2.cell 0
        have n0 := H6.out.2.frozen 0
        have m1 := H6.out.2.cell 1
        have n1 := H6.out.2.frozen 1
        have m2 := H6.out.2.cell 2
        have n2 := H6.out.2.frozen 2
        have m3 := H6.out.2.cell 3
        have n3 := H6.out.2.frozen 3
        have m4 := H6.out.2.cell 4
        have n4 := H6.out.2.frozen 4
        have m5 := H6.out.2.cell 5
        have n5 := H6.out.2.frozen 5
        refine wpAnyH_ready (rs := [11]) (by kernel_rfl) (by simp) ?_
        refine AllReadyH.cons (o := _) rfl (fun K hK => ?_) AllReadyH.nil
        go_simp
        go_wp2_with fail
        refine hK.out _ _ (HSA.out _ (below6 HW3.out HXl.out (.int .i64 tk) (.int .i64 tn) (.string tm) (.string tx) (.slice R1 p1 r1) (.slice R2 p2 r2))) (fun _ => ?_)
        clear hK K
        change wpAnyH _ _ _ _ _ _ _ _ (set6 W3 X (.int .i64 tk) (.int .i64 tn) (.string tm) (.string tx) (.slice R1 p1 r1) (.slice R2 p2 r2))
        clear m0 n0 m1 n1 m2 n2 m3 n3 m4 n4 m5 n5
        have HW4 := Lib.hid (below6 HW3.out HXl.out (.int .i64 tk) (.int .i64 tn) (.string tm) (.string tx) (.slice R1 p1 r1) (.slice R2 p2 r2))
        have H7 := Lib.hid (blk6 H6.out.2 H6.out.1 HXY.out (.int .i64 tk) (.int .i64 tn) (.string tm) (.string tx) (.slice R1 p1 r1) (.slice R2 p2 r2))
        generalize set6 W3 X (.int .i64 tk) (.int .i64 tn) (.string tm) (.string tx) (.slice R1 p1 r1) (.slice R2 p2 r2) = W4 at HW4 H7 ⊢
        refine wpAnyH_done (by kernel_rfl) ?_ _
        have HB4 := Lib.hid (HB.out.trans (HW4.out.mono HB.out.size))
        have e1 : (tk != tk) = false := by simp
        have e2 : (tn != tn) = false := by simp
        have e3 : (tm.toList != tm.toList) = false := by simp
        have e4 : (tx.toList != tx.toList) = false := by simp
        have ya0 := H7.out.2.cell 0
        have yb0 := H7.out.1.cell 0
        have ya1 := H7.out.2.cell 1
        have yb1 := H7.out.1.cell 1
        have ya2 := H7.out.2.cell 2
        have yb2 := H7.out.1.cell 2
        have ya3 := H7.out.2.cell 3
        have yb3 := H7.out.1.cell 3
        have ya4 := H7.out.2.cell 4
        have yb4 := H7.out.1.cell 4
        have ya5 := H7.out.2.cell 5
        have yb5 := H7.out.1.cell 5
        go_wp2_with (first
          | (go_at_call 21; refine (HRA.out _ HB4.out).mono ?_; rintro e w5 ⟨rfl, hb5⟩; have za := (hb5.cell (p := ⟨Y, 5, none⟩) H7.out.2.lt).trans ya5; have zb := (hb5.cell (p := ⟨X, 5, none⟩) H7.out.1.lt).trans yb5; have HB5 := Lib.hid (HB4.out.trans (hb5.mono HB4.out.size)); clear hb5)
          | (go_at_call 22; refine (HIN.out _ HB5.out).mono ?_; rintro e w6 ⟨rfl, hb6⟩; have HB6 := Lib.hid (HB5.out.trans (hb6.mono HB5.out.size)); clear hb6)
          | fail)
        refine ⟨?_, by simp [intOf]; omega⟩
        first | exact ⟨i + 1, by omega, by go_num, HB6⟩ | ((repeat apply Exists.intro); exact ⟨⟨i + 1, by omega, by go_num, HB6⟩, rfl⟩)
    · have hiN : i = N := by omega
      subst hiN
      go_wp2
      go_ret
      exact ⟨rfl, HB.out⟩

end Go.Proofs.YtnfabgbidkddhaaGreatDoor
