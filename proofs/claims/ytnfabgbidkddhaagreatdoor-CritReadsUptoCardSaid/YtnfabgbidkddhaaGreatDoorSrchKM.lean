/-
  The walk of the reference's one, of so many words.
-/
import Derived.Test.YtnfabgbidkddhaaGreatDoorGRV
import Derived.Test.YtnfabgbidkddhaaGreatDoorGRU
namespace Go.Proofs.YtnfabgbidkddhaaGreatDoor
open Go.RowKit
attribute [local go_sem ↓] Go.wp_at_zero Go.wp_at_succ

section
variable {w0 wS w : World} {g : Nat} {uv : Value} {E : CEnv} {ws : List WT} {out : Out} {mod : Bool} {h0 h : Hn} {N : Nat}

set_option maxRecDepth 100000 in
set_option maxHeartbeats 2000000 in
theorem one_nil (k0 : SSt w0 wS w g uv E h0 [] out mod false h) (bound : Nat) (hb : out.length ≤ bound) :
    Calls Tryz.prog 28 #[.pointer (some ⟨g, 0, none⟩)] w (SOut w0 wS g uv E h0 bound 0 none) := by
  obtain ⟨wv, A, cap, pre, hw, e0, e1, _, _, _, _, e6, ef, hgl⟩ := k0.at_.cells
  have f6 := ef 6 (by omega)
  have HB := Lib.hid fun q => (k0.drewN q).trans ((k0.drewN q).at_.setBad true)
  rw [List.append_nil] at hw
  obtain ⟨Aw, cw, rfl, _, _⟩ := hw.form
  generalize pre.length = i at *
  clear k0 hw ef
  go_enter Tryz.func28, Tryz.ntmps28
  go_upto_region 1 with (fail)
  go_quiet (fail)
  go_wp2
  go_ret
  exact ⟨_, [], _, _, true, _, rfl, HB.out _, rfl, by simpa [szL] using hb, by simp [szL]⟩

set_option maxRecDepth 100000 in
set_option maxHeartbeats 8000000 in
theorem one_step (hr : SRec E N) : SRec E (N + 1) := by
  intro w0 wS w g uv ws out mod h0 h he k0 hN hn
  cases ws with
  | nil => exact one_nil k0 _ (by omega)
  | cons t0 ts =>
    obtain ⟨k, t, kids⟩ := t0
    obtain ⟨wv, A, cap, pre, hw, e0, e1, _, _, _, _, _, ef, hgl⟩ := k0.at_.cells
    have f1 := ef 1 (by omega)
    obtain ⟨b, off, capw, u, rfl, hbl, d0, d1, d2, hu⟩ := hw.mid
    have hbel := k0.at_.bel
    have d0' : w.cell? ⟨b, off + pre.length * 3, none⟩ = some (.int .i64 k) := (hbel.cell (p := ⟨b, off + pre.length * 3, none⟩) hbl).trans d0
    have d1' : w.cell? ⟨b, off + pre.length * 3 + 1, none⟩ = some (.string t) := (hbel.cell (p := ⟨b, off + pre.length * 3 + 1, none⟩) hbl).trans d1
    have d2' : w.cell? ⟨b, off + pre.length * 3 + 2, none⟩ = some u := (hbel.cell (p := ⟨b, off + pre.length * 3 + 2, none⟩) hbl).trans d2
    have hu : WsAt w0 u kids := hu
    obtain ⟨Au, cu, hux, _, _⟩ := hu.form
    have hok := k0.at_.ok
    unfold okL okW at hok
    obtain ⟨⟨hok1, hok2⟩, hok3⟩ := hok
    obtain ⟨Ac, cc, hfm, hcc1, hcc2⟩ := hw.form
    have hNb : pre.length + (ts.length + 1) ≤ 9223372036854775807 := by
      injection hfm with q1 q2 q3
      unfold maxLen at hcc2
      omega
    clear hfm hcc1 hcc2
    have hil : pre.length < pre.length + (ts.length + 1) := by omega
    have HK0 := Lib.hid k0
    have HR := Lib.hid hr
    have HE := Lib.hid he
    have HU := Lib.hid hu
    have HOK2 := Lib.hid hok2
    have HOK1 := Lib.hid hok1
    have hS : ∀ V, Below w.heap.size w V → V.cell? ⟨g, 0, none⟩ = some (.slice (some ⟨b, off, none⟩) (pre.length + (ts.length + 1)) capw) ∧ V.cell? ⟨g, 1, none⟩ = some (.int .i64 (pre.length : Nat)) ∧ V.cell? ⟨b, off + pre.length * 3, none⟩ = some (.int .i64 k) ∧ V.cell? ⟨b, off + pre.length * 3 + 1, none⟩ = some (.string t) ∧ V.cell? ⟨b, off + pre.length * 3 + 2, none⟩ = some u := fun V hV => by
      have hbw := Nat.lt_of_lt_of_le hbl hbel.size
      exact ⟨(hV.cell (p := ⟨g, 0, none⟩) hgl).trans e0, (hV.cell (p := ⟨g, 1, none⟩) hgl).trans e1, (hV.cell (p := ⟨b, off + pre.length * 3, none⟩) hbw).trans d0', (hV.cell (p := ⟨b, off + pre.length * 3 + 1, none⟩) hbw).trans d1', (hV.cell (p := ⟨b, off + pre.length * 3 + 2, none⟩) hbw).trans d2'⟩
    have HSA := Lib.hid hS
    have HBD := Lib.hid (show ∀ q, Below w.heap.size w (w.drewN q).drew from fun q => ⟨rfl, rfl, rfl, Nat.le_refl _, fun _ _ => rfl⟩)
    have HBA := Lib.hid (show ∀ (q : Nat) (c : Obj), Below w.heap.size w ((w.drewN q).alloc c) from fun q c => belowD (show Below w.heap.size w (w.drewN q) from ⟨rfl, rfl, rfl, Nat.le_refl _, fun _ _ => rfl⟩) ((Below.refl _ _).alloc (Nat.le_refl _) c))
    have hbg : g ≠ b := by
      have := k0.at_.lo.1
      omega
    rw [keyP_cons]
    obtain ⟨res, hre⟩ : ∃ res, (if k = 3 then listP N (keyP E N) kids ts out mod
        else if k ≠ 1 then none
        else if isPlace t = true then placeP E t ts out mod
        else askR E N (lowS t) ts out mod) = res := ⟨_, rfl⟩
    rw [hre]
    have HRE := Lib.hid hre
    have hszl : szL (.mk k t kids :: ts) = 1 + szL kids + szL ts := by simp [szL, szW]
    rw [hszl] at hN hn ⊢
    clear hszl hre
    generalize pre.length + (ts.length + 1) = M at *
    generalize pre.length = i at *
    have c1 : decide (M ≤ i) = false := by simp; omega
    have i1 : (i : Int) < M := by omega
    have i0 : (0 : Int) ≤ (i : Int) := by omega
    have w1 : wrap64 ((i : Int) + 1) = (i : Int) + 1 := by unfold wrap64; omega
    generalize hkl : kids.length = KL at hux
    have HKL := Lib.hid hkl
    subst hux
    clear k0 hr he hw hu hok1 hok2 hok3 ef d0 d1 d2 hkl hbel hS
    go_enter Tryz.func28, Tryz.ntmps28
    go_upto_region 1 with (fail)
    go_quiet (fail)
    go_upto_region 4 with (fail)
    go_cut [3] (fun o wx => ∃ X, o = .pointer (some ⟨X, 0, none⟩) ∧ w.heap.size ≤ X ∧ Hid (Below w.heap.size w wx) ∧ Hid (Blk wx X 41 #[.int .i64 k, .string t, .slice Au KL cu]))
    case first =>
      refine wp_region_held_drew (S := (fun V => V.cell? ⟨g, 0, none⟩ = some (.slice (some ⟨b, off, none⟩) M capw) ∧ V.cell? ⟨g, 1, none⟩ = some (.int .i64 i) ∧ V.cell? ⟨b, off + i * 3, none⟩ = some (.int .i64 k) ∧ V.cell? ⟨b, off + i * 3 + 1, none⟩ = some (.string t) ∧ V.cell? ⟨b, off + i * 3 + 2, none⟩ = some (.slice Au KL cu))) (by kernel_rfl) (HSA.out _ (HBD.out _)) (fun hHeld => ?_)
      refine wpAnyH_take (i := 0) (oi := _) (v := .pointer (some ⟨g, 0, none⟩)) rfl (by kernel_rfl) (by kernel_rfl) (by kernel_rfl) (fun _ _ _ h => h) (Or.inl ⟨by rfl, ?_⟩) (by trivial) ?_
      · intro w _
        go_simp
      simp only [Act.put, List.setIfInBounds_toArray, List.set_cons_zero, List.set_cons_succ, List.getElem_toArray, List.getElem_cons_zero]
      refine wpAnyH_take (i := 1) (oi := _) (v := .pointer (some ⟨g, 0, none⟩)) rfl (by kernel_rfl) (by kernel_rfl) (by kernel_rfl) (fun _ _ _ h => h) (Or.inl ⟨by rfl, ?_⟩) (by trivial) ?_
      · intro w _
        go_simp
      simp only [Act.put, List.setIfInBounds_toArray, List.set_cons_zero, List.set_cons_succ, List.getElem_toArray, List.getElem_cons_succ, List.getElem_cons_zero]
      refine wpAnyH_take (i := 2) (oi := _) (v := .pointer (some ⟨g, 0, none⟩)) rfl (by kernel_rfl) (by kernel_rfl) (by kernel_rfl) (fun _ _ _ h => h) (Or.inl ⟨by rfl, ?_⟩) (by trivial) ?_
      · intro w _
        go_simp
      simp only [Act.put, List.setIfInBounds_toArray, List.set_cons_zero, List.set_cons_succ, List.getElem_toArray, List.getElem_cons_succ, List.getElem_cons_zero]
      refine wpAnyH_take (i := 3) (oi := _) (v := .slice (some ⟨b, off, none⟩) M capw) rfl (by kernel_rfl) (by kernel_rfl) (by kernel_rfl) (fun _ _ _ h => h) (Or.inl ⟨by rfl, ?_⟩) (by trivial) ?_
      · intro V hV
        obtain ⟨s0, s1, s2, s3, s4⟩ := hV
        go_simp
      simp only [Act.put, List.setIfInBounds_toArray, List.set_cons_zero, List.set_cons_succ, List.getElem_toArray, List.getElem_cons_succ, List.getElem_cons_zero]
      refine wpAnyH_take (i := 4) (oi := _) (v := .pointer (some ⟨g, 0, none⟩)) rfl (by kernel_rfl) (by kernel_rfl) (by kernel_rfl) (fun _ _ _ h => h) (Or.inl ⟨by rfl, ?_⟩) (by trivial) ?_
      · intro w _
        go_simp
      simp only [Act.put, List.setIfInBounds_toArray, List.set_cons_zero, List.set_cons_succ, List.getElem_toArray, List.getElem_cons_succ, List.getElem_cons_zero]
      refine wpAnyH_take (i := 5) (oi := _) (v := .pointer (some ⟨g, 0, none⟩)) rfl (by kernel_rfl) (by kernel_rfl) (by kernel_rfl) (fun _ _ _ h => h) (Or.inl ⟨by rfl, ?_⟩) (by trivial) ?_
      · intro w _
        go_simp
      simp only [Act.put, List.setIfInBounds_toArray, List.set_cons_zero, List.set_cons_succ, List.getElem_toArray, List.getElem_cons_succ, List.getElem_cons_zero]
      refine wpAnyH_take (i := 6) (oi := _) (v := .pointer (some ⟨g, 1, none⟩)) rfl (by kernel_rfl) (by kernel_rfl) (by kernel_rfl) (fun _ _ _ h => h) (Or.inl ⟨by rfl, ?_⟩) (by trivial) ?_
      · intro w _
        go_simp
      simp only [Act.put, List.setIfInBounds_toArray, List.set_cons_zero, List.set_cons_succ, List.getElem_toArray, List.getElem_cons_succ, List.getElem_cons_zero]
      refine wpAnyH_take (i := 7) (oi := _) (v := .int .i64 i) rfl (by kernel_rfl) (by kernel_rfl) (by kernel_rfl) (fun _ _ _ h => h) (Or.inl ⟨by rfl, ?_⟩) (by trivial) ?_
      · intro V hV
        obtain ⟨s0, s1, s2, s3, s4⟩ := hV
        go_simp
      simp only [Act.put, List.setIfInBounds_toArray, List.set_cons_zero, List.set_cons_succ, List.getElem_toArray, List.getElem_cons_succ, List.getElem_cons_zero]
      refine wpAnyH_take (i := 8) (oi := _) (v := .pointer (some ⟨b, off + i * 3, none⟩)) rfl (by kernel_rfl) (by kernel_rfl) (by kernel_rfl) (fun _ _ _ h => h) (Or.inl ⟨by rfl, ?_⟩) (by trivial) ?_
      · intro w _
        go_simp
      simp only [Act.put, List.setIfInBounds_toArray, List.set_cons_zero, List.set_cons_succ, List.getElem_toArray, List.getElem_cons_succ, List.getElem_cons_zero]
      refine wpAnyH_take (i := 9) (oi := _) (v := .agg #[.int .i64 k, .string t, .slice Au KL cu]) rfl (by kernel_rfl) (by kernel_rfl) (by kernel_rfl) (fun _ _ _ h => h) (Or.inl ⟨by rfl, ?_⟩) (by trivial) ?_
      · intro V hV
        obtain ⟨s0, s1, s2, s3, s4⟩ := hV
        go_simp
      simp only [Act.put, List.setIfInBounds_toArray, List.set_cons_zero, List.set_cons_succ, List.getElem_toArray, List.getElem_cons_succ, List.getElem_cons_zero]
      refine wpAnyH_ready (rs := [10]) (by kernel_rfl) (by simp) ?_
      refine AllReadyH.cons (o := _) rfl (fun K hK => ?_) AllReadyH.nil
      go_simp
      go_wp2_with (first
        | fail
        | fail)
      refine hK.out _ _ (HSA.out _ (HBA.out _ _)) (fun _ => ?_)
      clear hK K
      have hX0 := Blk.new (w.drewN (nq + 1)) 41 #[.int .i64 0, .string ⟨#[]⟩, .slice none 0 0]
      have hX0 : Blk ((w.drewN (nq + 1)).alloc (.cells #[.int .i64 0, .string ⟨#[]⟩, .slice none 0 0] 41)) w.heap.size 41 #[.int .i64 0, .string ⟨#[]⟩, .slice none 0 0] := hX0
      have HWA := Lib.hid (HBA.out (nq + 1) (.cells #[.int .i64 0, .string ⟨#[]⟩, .slice none 0 0] 41))
      have HSX := Lib.hid (show w.heap.size ≤ w.heap.size from Nat.le_refl _)
      generalize (w.drewN (nq + 1)).alloc (.cells #[.int .i64 0, .string ⟨#[]⟩, .slice none 0 0] 41) = WA at hX0 HWA ⊢
      obtain ⟨X, hXe⟩ : ∃ X, w.heap.size = X := ⟨_, rfl⟩
      have HXE := Lib.hid hXe
      have hXX : w.heap.size ≤ X := by omega
      have HXX := Lib.hid hXX
      rw [hXe] at hX0
      rw [hXe]
      clear hXe hXX HSX
      have x0 := hX0.cell 0
      have x1 := hX0.cell 1
      have x2 := hX0.cell 2
      have y0 := hX0.frozen 0
      have y1 := hX0.frozen 1
      have y2 := hX0.frozen 2
      have HX0 := Lib.hid hX0
      clear hX0
      refine wpAnyH_ready (rs := [11]) (by kernel_rfl) (by simp) ?_
      refine AllReadyH.cons (o := _) rfl (fun K hK => ?_) AllReadyH.nil
      go_simp
      go_wp2_with (first
        | fail
        | fail)
      refine hK.out _ _ (HSA.out _ (((HWA.out.setCell HXX.out _).setCell HXX.out _).setCell HXX.out _)) (fun _ => ?_)
      clear hK K
      refine wpAnyH_done (by kernel_rfl) ?_ _
      have hWB := ((HWA.out.setCell (p := ⟨X, 0, none⟩) HXX.out (.int .i64 k)).setCell (p := ⟨X, 1, none⟩) HXX.out (.string t)).setCell (p := ⟨X, 2, none⟩) HXX.out (.slice Au KL cu)
      have hBX : Blk (((WA.setCell ⟨X, 0, none⟩ (.int .i64 k)).setCell ⟨X, 1, none⟩ (.string t)).setCell ⟨X, 2, none⟩ (.slice Au KL cu)) X 41 #[.int .i64 k, .string t, .slice Au KL cu] := ((HX0.out.set 0 (.int .i64 k)).set 1 (.string t)).set 2 (.slice Au KL cu)
      go_wp2_with fail
      go_meet
      exact ⟨X, rfl, HXX.out, Lib.hid hWB, Lib.hid hBX⟩
    case rest =>
      obtain ⟨X, rfl, hXX, HWB, HBX⟩ := hcut
      have kB := HK0.out.below HWB.out
      obtain ⟨_, b1, _, _, _⟩ := HSA.out _ HWB.out
      have bf : wc.frozen? ⟨g, 1, none⟩ = false := by
        obtain ⟨_, _, _, _, _, _, _, _, _, _, _, _, ef, _⟩ := kB.at_.cells
        exact ef 1 (by omega)
      have hch : Chg [g] wc (wc.setCell ⟨g, 1, none⟩ (.int .i64 ((i : Int) + 1))) := (Chg.refl _ wc).set (p := ⟨g, 1, none⟩) (.inl (by simp)) _
      have hBX2 := HBX.out.chg hch (by simp; omega)
      have kT := kB.trans (kB.at_.take _ b1)
      have HBX2 := Lib.hid hBX2
      have HKT := Lib.hid kT
      have HN1 := Lib.hid hN
      have HN2 := Lib.hid hn
      clear hBX2 kT kB hch hN hn
      go_upto_region 6 with (fail)
      generalize wc.setCell ⟨g, 1, none⟩ (.int .i64 ((i : Int) + 1)) = W at HBX2 HKT ⊢
      have hN := HN1.out
      have hn := HN2.out
      have x0 := HBX2.out.cell 0
      have x1 := HBX2.out.cell 1
      have x2 := HBX2.out.cell 2
      have x0 : W.cell? ⟨X, 0, none⟩ = some (.int .i64 k) := x0
      have x1 : W.cell? ⟨X, 1, none⟩ = some (.string t) := x1
      have x2 : W.cell? ⟨X, 2, none⟩ = some (.slice Au KL cu) := x2
      obtain ⟨z6, zf, hgW⟩ : W.cell? ⟨g, 6, none⟩ = some (.bool false) ∧ W.frozen? ⟨g, 6, none⟩ = false ∧ g < W.heap.size := by
        obtain ⟨_, _, _, _, _, _, _, _, _, _, _, e6, ef, hgl⟩ := HKT.out.at_.cells
        exact ⟨e6, ef 6 (by omega), hgl⟩
      have HBAD := Lib.hid (HKT.out.trans (HKT.out.at_.setBad true))
      have ht := HOK1.out
      clear e0 e1 f1 d0' d1' d2' b1 bf
      by_cases hk3 : k = 3
      · subst hk3
        have hli := list_anyS HR.out HKT.out HE.out kids _ HU.out HOK2.out (by omega) (by omega)
        have hre := HRE.out
        rw [if_pos rfl] at hre
        rw [hre] at hli
        clear hre
        go_wp2_with (first
          | (go_at_call 46; refine hli.mono ?_; intro e w5 hr5; have HR5 := Lib.hid hr5; obtain ⟨k5, ws5, out5, mod5, bad5, h5, rfl, hk5, _⟩ := hr5; clear hk5 hli)
          | fail)
        go_ret
        obtain ⟨k6, ws6, out6, mod6, bad6, h6, q1, q2, q3, q4, q5⟩ := HR5.out
        injection q1 with q1
        injection q1 with _ q1
        subst q1
        exact ⟨_, _, _, _, _, _, rfl, q2, q3, by omega, by omega⟩
      · have hre := HRE.out
        rw [if_neg hk3] at hre
        have hk3b : (k == 3) = false := by simpa using hk3
        by_cases hk1 : k = 1
        · subst hk1
          rw [if_neg (by simp)] at hre
          have HRE2 := Lib.hid hre
          clear hre
          rcases Nat.eq_zero_or_pos t.size with h0 | h0
          · have hte : t = ByteArray.empty := of_dataL t [] (List.eq_nil_of_length_eq_zero (by rw [lenB]; exact h0))
            subst hte
            go_wp2
            go_ret
            have hre := HRE2.out
            rw [if_neg (by rw [isPlace_nil]; decide)] at hre
            rw [askR_empty] at hre
            exact ⟨_, _, _, _, true, _, rfl, HBAD.out, hre.symm, by omega, by simp⟩
          · have hne : t.toList.isEmpty = false := by
              rw [ByteArray.toList_eq, List.isEmpty_eq_false_iff]
              intro h
              have := lenB t
              rw [h] at this
              simp at this
              omega
            have hfd := fun W => fold1_any t W (by omega)
            have hsz : (lowS t).size = t.size := by
              rw [← lenB, lowS_list, lowL_len, lenB]
            have hre := HRE2.out
            rw [← isPlace_low t, ← placeP_low E t] at hre
            have HRE3 := Lib.hid hre
            clear hre
            go_upto_region 12 with (first
              | (go_at_call 47; refine (hfd _).mono ?_; rintro e w5 ⟨rfl, hb5⟩; have HK5 := Lib.hid (HKT.out.below hb5); clear hb5 hfd)
              | fail)
            obtain ⟨T, hT⟩ : ∃ T, lowS t = T := ⟨_, rfl⟩
            have hre := HRE3.out
            rw [hT] at hsz hre ⊢
            have HRE4 := Lib.hid hre
            clear hre
            have hTs : 0 < T.size := by omega
            have hTb : T.size ≤ 1100 := by omega
            have i2 : (0 : Int) < (T.size : Int) := by omega
            have hpc := isPlace_cons T hTs
            clear hT hsz hne h0 z6 zf x0 x1 x2 hgW
            by_cases c42 : (T[0].toNat : Int) = 42
            · have hp : isPlace T = true := by rw [hpc, decide_eq_true c42]; rfl
              have hb1 : ((T[0].toNat : Int) == 42) = true := by simpa using c42
              have c48 : (T[0].toNat : Int) < 48 := by omega
              clear hpc c42
              have hre := HRE4.out
              rw [if_pos hp] at hre
              have hpl := places_anyS HK5.out HE.out T hTb (by omega)
              rw [hre] at hpl
              clear hre hp
              go_wp2_with (first
                | (go_at_call 48; refine hpl.mono ?_; intro e w7 hr5; have HR5 := Lib.hid hr5; obtain ⟨k5, ws5, out5, mod5, bad5, h5, rfl, hk5, _⟩ := hr5; clear hk5)
                | fail)
              go_ret
              obtain ⟨k6, ws6, out6, mod6, bad6, h6, q1, q2, q3, q4, q5⟩ := HR5.out
              injection q1 with q1
              injection q1 with _ q1
              subst q1
              exact ⟨_, _, _, _, _, _, rfl, q2, q3, by omega, by omega⟩
            · have hb1 : ((T[0].toNat : Int) == 42) = false := by simpa using c42
              by_cases c48 : 48 ≤ (T[0].toNat : Int)
              · by_cases c57 : (T[0].toNat : Int) ≤ 57
                · have hp : isPlace T = true := by rw [hpc, decide_eq_true c48, decide_eq_true c57]; simp
                  clear hpc
                  have hre := HRE4.out
                  rw [if_pos hp] at hre
                  have hpl := places_anyS HK5.out HE.out T hTb (by omega)
                  rw [hre] at hpl
                  clear hre hp
                  go_wp2_with (first
                    | (go_at_call 48; refine hpl.mono ?_; intro e w7 hr5; have HR5 := Lib.hid hr5; obtain ⟨k5, ws5, out5, mod5, bad5, h5, rfl, hk5, _⟩ := hr5; clear hk5)
                    | fail)
                  go_ret
                  obtain ⟨k6, ws6, out6, mod6, bad6, h6, q1, q2, q3, q4, q5⟩ := HR5.out
                  injection q1 with q1
                  injection q1 with _ q1
                  subst q1
                  exact ⟨_, _, _, _, _, _, rfl, q2, q3, by omega, by omega⟩
                · have hp : isPlace T = false := by rw [hpc, decide_eq_false c42, decide_eq_false c57]; simp
                  clear hpc
                  by_cases h12 : T.data.toList ∈ keys12
                  · clear hb1 c42 c48 c57 i2 hTs hTb hp
                    simp only [keys12, flagNames, List.map_cons, List.map_nil, List.cons_append, List.nil_append, List.mem_cons, List.not_mem_nil, or_false] at h12
                    rcases h12 with e | e | e | e | e | e | e | e | e | e | e | e
                    all_goals
                      have hT2 := of_dataL T _ e
                      subst hT2
                      clear e
                    · have hx1 : (((⟨#[97, 110, 115, 119, 101, 114, 101, 100]⟩ : ByteArray).extract 0 2).toList == [117, 110]) = false := by kernel_rfl
                      have hx3 : (⟨#[36]⟩ : ByteArray) ++ ⟨#[97, 110, 115, 119, 101, 114, 101, 100]⟩ = ⟨#[36, 97, 110, 115, 119, 101, 114, 101, 100]⟩ := by kernel_rfl
                      have hre := HRE4.out
                      rw [if_neg (by decide), askR_of (a := .has ⟨#[36, 97, 110, 115, 119, 101, 114, 101, 100]⟩) (by kernel_rfl)] at hre
                      clear HRE4
                      go_wp2_with (first
                        | (go_at_call 29; refine (addN_anyS HK5.out (tmT 6 .empty ⟨#[36, 97, 110, 115, 119, 101, 114, 101, 100]⟩) rfl rfl (by omega)).mono ?_; rintro e w6 ⟨h6, rfl, hks⟩; have HK6 := Lib.hid hks; clear hks)
                        | fail)
                      go_ret
                      exact ⟨_, _, _, _, false, _, rfl, HK6.out, hre.symm, by simp only [List.length_append, List.length_singleton]; omega, by simp; omega⟩
                    · have hx1 : (((⟨#[100, 101, 108, 101, 116, 101, 100]⟩ : ByteArray).extract 0 2).toList == [117, 110]) = false := by kernel_rfl
                      have hx3 : (⟨#[36]⟩ : ByteArray) ++ ⟨#[100, 101, 108, 101, 116, 101, 100]⟩ = ⟨#[36, 100, 101, 108, 101, 116, 101, 100]⟩ := by kernel_rfl
                      have hre := HRE4.out
                      rw [if_neg (by decide), askR_of (a := .has ⟨#[36, 100, 101, 108, 101, 116, 101, 100]⟩) (by kernel_rfl)] at hre
                      clear HRE4
                      go_wp2_with (first
                        | (go_at_call 29; refine (addN_anyS HK5.out (tmT 6 .empty ⟨#[36, 100, 101, 108, 101, 116, 101, 100]⟩) rfl rfl (by omega)).mono ?_; rintro e w6 ⟨h6, rfl, hks⟩; have HK6 := Lib.hid hks; clear hks)
                        | fail)
                      go_ret
                      exact ⟨_, _, _, _, false, _, rfl, HK6.out, hre.symm, by simp only [List.length_append, List.length_singleton]; omega, by simp; omega⟩
                    · have hx1 : (((⟨#[100, 114, 97, 102, 116]⟩ : ByteArray).extract 0 2).toList == [117, 110]) = false := by kernel_rfl
                      have hx3 : (⟨#[36]⟩ : ByteArray) ++ ⟨#[100, 114, 97, 102, 116]⟩ = ⟨#[36, 100, 114, 97, 102, 116]⟩ := by kernel_rfl
                      have hre := HRE4.out
                      rw [if_neg (by decide), askR_of (a := .has ⟨#[36, 100, 114, 97, 102, 116]⟩) (by kernel_rfl)] at hre
                      clear HRE4
                      go_wp2_with (first
                        | (go_at_call 29; refine (addN_anyS HK5.out (tmT 6 .empty ⟨#[36, 100, 114, 97, 102, 116]⟩) rfl rfl (by omega)).mono ?_; rintro e w6 ⟨h6, rfl, hks⟩; have HK6 := Lib.hid hks; clear hks)
                        | fail)
                      go_ret
                      exact ⟨_, _, _, _, false, _, rfl, HK6.out, hre.symm, by simp only [List.length_append, List.length_singleton]; omega, by simp; omega⟩
                    · have hx1 : (((⟨#[102, 108, 97, 103, 103, 101, 100]⟩ : ByteArray).extract 0 2).toList == [117, 110]) = false := by kernel_rfl
                      have hx3 : (⟨#[36]⟩ : ByteArray) ++ ⟨#[102, 108, 97, 103, 103, 101, 100]⟩ = ⟨#[36, 102, 108, 97, 103, 103, 101, 100]⟩ := by kernel_rfl
                      have hre := HRE4.out
                      rw [if_neg (by decide), askR_of (a := .has ⟨#[36, 102, 108, 97, 103, 103, 101, 100]⟩) (by kernel_rfl)] at hre
                      clear HRE4
                      go_wp2_with (first
                        | (go_at_call 29; refine (addN_anyS HK5.out (tmT 6 .empty ⟨#[36, 102, 108, 97, 103, 103, 101, 100]⟩) rfl rfl (by omega)).mono ?_; rintro e w6 ⟨h6, rfl, hks⟩; have HK6 := Lib.hid hks; clear hks)
                        | fail)
                      go_ret
                      exact ⟨_, _, _, _, false, _, rfl, HK6.out, hre.symm, by simp only [List.length_append, List.length_singleton]; omega, by simp; omega⟩
                    · have hx1 : (((⟨#[115, 101, 101, 110]⟩ : ByteArray).extract 0 2).toList == [117, 110]) = false := by kernel_rfl
                      have hx3 : (⟨#[36]⟩ : ByteArray) ++ ⟨#[115, 101, 101, 110]⟩ = ⟨#[36, 115, 101, 101, 110]⟩ := by kernel_rfl
                      have hre := HRE4.out
                      rw [if_neg (by decide), askR_of (a := .has ⟨#[36, 115, 101, 101, 110]⟩) (by kernel_rfl)] at hre
                      clear HRE4
                      go_wp2_with (first
                        | (go_at_call 29; refine (addN_anyS HK5.out (tmT 6 .empty ⟨#[36, 115, 101, 101, 110]⟩) rfl rfl (by omega)).mono ?_; rintro e w6 ⟨h6, rfl, hks⟩; have HK6 := Lib.hid hks; clear hks)
                        | fail)
                      go_ret
                      exact ⟨_, _, _, _, false, _, rfl, HK6.out, hre.symm, by simp only [List.length_append, List.length_singleton]; omega, by simp; omega⟩
                    · have hx1 : (((⟨#[117, 110, 97, 110, 115, 119, 101, 114, 101, 100]⟩ : ByteArray).extract 0 2).toList == [117, 110]) = true := by kernel_rfl
                      have hx2 : (⟨#[117, 110, 97, 110, 115, 119, 101, 114, 101, 100]⟩ : ByteArray).extract 2 10 = ⟨#[97, 110, 115, 119, 101, 114, 101, 100]⟩ := by kernel_rfl
                      have hx3 : (⟨#[36]⟩ : ByteArray) ++ ⟨#[97, 110, 115, 119, 101, 114, 101, 100]⟩ = ⟨#[36, 97, 110, 115, 119, 101, 114, 101, 100]⟩ := by kernel_rfl
                      have hre := HRE4.out
                      rw [if_neg (by decide), askR_of (a := .un (.has ⟨#[36, 97, 110, 115, 119, 101, 114, 101, 100]⟩)) (by kernel_rfl)] at hre
                      clear HRE4
                      go_wp2_with (first
                        | (go_at_call 29; refine (addN_anyS HK5.out (tmT 6 .empty ⟨#[36, 97, 110, 115, 119, 101, 114, 101, 100]⟩) rfl rfl (by omega)).mono ?_; rintro e w6 ⟨h6, rfl, hks⟩; have HK6 := Lib.hid hks; clear hks)
                        | (go_at_call 49; refine (not_anyS HK6.out (out.length : Nat) (by simp only [List.length_append, List.length_singleton]; omega)).mono ?_; rintro e w7 ⟨h7, rfl, hks⟩; have HK7 := Lib.hid hks; clear hks)
                        | fail)
                      go_ret
                      exact ⟨_, _, _, _, false, _, rfl, HK7.out, by rw [← hre]; simp [askP, stepA, notP, putP], by simp only [List.length_append, List.length_singleton]; omega, by simp; omega⟩
                    · have hx1 : (((⟨#[117, 110, 100, 101, 108, 101, 116, 101, 100]⟩ : ByteArray).extract 0 2).toList == [117, 110]) = true := by kernel_rfl
                      have hx2 : (⟨#[117, 110, 100, 101, 108, 101, 116, 101, 100]⟩ : ByteArray).extract 2 9 = ⟨#[100, 101, 108, 101, 116, 101, 100]⟩ := by kernel_rfl
                      have hx3 : (⟨#[36]⟩ : ByteArray) ++ ⟨#[100, 101, 108, 101, 116, 101, 100]⟩ = ⟨#[36, 100, 101, 108, 101, 116, 101, 100]⟩ := by kernel_rfl
                      have hre := HRE4.out
                      rw [if_neg (by decide), askR_of (a := .un (.has ⟨#[36, 100, 101, 108, 101, 116, 101, 100]⟩)) (by kernel_rfl)] at hre
                      clear HRE4
                      go_wp2_with (first
                        | (go_at_call 29; refine (addN_anyS HK5.out (tmT 6 .empty ⟨#[36, 100, 101, 108, 101, 116, 101, 100]⟩) rfl rfl (by omega)).mono ?_; rintro e w6 ⟨h6, rfl, hks⟩; have HK6 := Lib.hid hks; clear hks)
                        | (go_at_call 49; refine (not_anyS HK6.out (out.length : Nat) (by simp only [List.length_append, List.length_singleton]; omega)).mono ?_; rintro e w7 ⟨h7, rfl, hks⟩; have HK7 := Lib.hid hks; clear hks)
                        | fail)
                      go_ret
                      exact ⟨_, _, _, _, false, _, rfl, HK7.out, by rw [← hre]; simp [askP, stepA, notP, putP], by simp only [List.length_append, List.length_singleton]; omega, by simp; omega⟩
                    · have hx1 : (((⟨#[117, 110, 100, 114, 97, 102, 116]⟩ : ByteArray).extract 0 2).toList == [117, 110]) = true := by kernel_rfl
                      have hx2 : (⟨#[117, 110, 100, 114, 97, 102, 116]⟩ : ByteArray).extract 2 7 = ⟨#[100, 114, 97, 102, 116]⟩ := by kernel_rfl
                      have hx3 : (⟨#[36]⟩ : ByteArray) ++ ⟨#[100, 114, 97, 102, 116]⟩ = ⟨#[36, 100, 114, 97, 102, 116]⟩ := by kernel_rfl
                      have hre := HRE4.out
                      rw [if_neg (by decide), askR_of (a := .un (.has ⟨#[36, 100, 114, 97, 102, 116]⟩)) (by kernel_rfl)] at hre
                      clear HRE4
                      go_wp2_with (first
                        | (go_at_call 29; refine (addN_anyS HK5.out (tmT 6 .empty ⟨#[36, 100, 114, 97, 102, 116]⟩) rfl rfl (by omega)).mono ?_; rintro e w6 ⟨h6, rfl, hks⟩; have HK6 := Lib.hid hks; clear hks)
                        | (go_at_call 49; refine (not_anyS HK6.out (out.length : Nat) (by simp only [List.length_append, List.length_singleton]; omega)).mono ?_; rintro e w7 ⟨h7, rfl, hks⟩; have HK7 := Lib.hid hks; clear hks)
                        | fail)
                      go_ret
                      exact ⟨_, _, _, _, false, _, rfl, HK7.out, by rw [← hre]; simp [askP, stepA, notP, putP], by simp only [List.length_append, List.length_singleton]; omega, by simp; omega⟩
                    · have hx1 : (((⟨#[117, 110, 102, 108, 97, 103, 103, 101, 100]⟩ : ByteArray).extract 0 2).toList == [117, 110]) = true := by kernel_rfl
                      have hx2 : (⟨#[117, 110, 102, 108, 97, 103, 103, 101, 100]⟩ : ByteArray).extract 2 9 = ⟨#[102, 108, 97, 103, 103, 101, 100]⟩ := by kernel_rfl
                      have hx3 : (⟨#[36]⟩ : ByteArray) ++ ⟨#[102, 108, 97, 103, 103, 101, 100]⟩ = ⟨#[36, 102, 108, 97, 103, 103, 101, 100]⟩ := by kernel_rfl
                      have hre := HRE4.out
                      rw [if_neg (by decide), askR_of (a := .un (.has ⟨#[36, 102, 108, 97, 103, 103, 101, 100]⟩)) (by kernel_rfl)] at hre
                      clear HRE4
                      go_wp2_with (first
                        | (go_at_call 29; refine (addN_anyS HK5.out (tmT 6 .empty ⟨#[36, 102, 108, 97, 103, 103, 101, 100]⟩) rfl rfl (by omega)).mono ?_; rintro e w6 ⟨h6, rfl, hks⟩; have HK6 := Lib.hid hks; clear hks)
                        | (go_at_call 49; refine (not_anyS HK6.out (out.length : Nat) (by simp only [List.length_append, List.length_singleton]; omega)).mono ?_; rintro e w7 ⟨h7, rfl, hks⟩; have HK7 := Lib.hid hks; clear hks)
                        | fail)
                      go_ret
                      exact ⟨_, _, _, _, false, _, rfl, HK7.out, by rw [← hre]; simp [askP, stepA, notP, putP], by simp only [List.length_append, List.length_singleton]; omega, by simp; omega⟩
                    · have hx1 : (((⟨#[117, 110, 115, 101, 101, 110]⟩ : ByteArray).extract 0 2).toList == [117, 110]) = true := by kernel_rfl
                      have hx2 : (⟨#[117, 110, 115, 101, 101, 110]⟩ : ByteArray).extract 2 6 = ⟨#[115, 101, 101, 110]⟩ := by kernel_rfl
                      have hx3 : (⟨#[36]⟩ : ByteArray) ++ ⟨#[115, 101, 101, 110]⟩ = ⟨#[36, 115, 101, 101, 110]⟩ := by kernel_rfl
                      have hre := HRE4.out
                      rw [if_neg (by decide), askR_of (a := .un (.has ⟨#[36, 115, 101, 101, 110]⟩)) (by kernel_rfl)] at hre
                      clear HRE4
                      go_wp2_with (first
                        | (go_at_call 29; refine (addN_anyS HK5.out (tmT 6 .empty ⟨#[36, 115, 101, 101, 110]⟩) rfl rfl (by omega)).mono ?_; rintro e w6 ⟨h6, rfl, hks⟩; have HK6 := Lib.hid hks; clear hks)
                        | (go_at_call 49; refine (not_anyS HK6.out (out.length : Nat) (by simp only [List.length_append, List.length_singleton]; omega)).mono ?_; rintro e w7 ⟨h7, rfl, hks⟩; have HK7 := Lib.hid hks; clear hks)
                        | fail)
                      go_ret
                      exact ⟨_, _, _, _, false, _, rfl, HK7.out, by rw [← hre]; simp [askP, stepA, notP, putP], by simp only [List.length_append, List.length_singleton]; omega, by simp; omega⟩
                    · have hx1 : (((⟨#[107, 101, 121, 119, 111, 114, 100]⟩ : ByteArray).extract 0 2).toList == [117, 110]) = false := by kernel_rfl
                      have hre := HRE4.out
                      rw [if_neg (by decide), askR_of (a := .keyword) (by kernel_rfl)] at hre
                      clear HRE4
                      go_wp2_with (first
                        | (go_at_call 50; refine (key_anyS HK5.out).mono ?_; rintro e w8 ⟨s8, ok, ws', rfl, hks, hwp, hle⟩; have HK8 := Lib.hid (hks.cast (Bool.false_or _)); have HW := Lib.hid hwp; have HL := Lib.hid (hle_of hle); clear hks hwp hle)
                        | (go_at_call 29; refine (addN_anyS HK8.out (tmT 6 .empty s8) rfl rfl (by omega)).mono ?_; rintro e w6 ⟨h6, rfl, hks⟩; have HK6 := Lib.hid hks; clear hks)
                        | fail)
                      go_ret
                      have h1 := HW.out
                      have h2 := HL.out
                      refine ⟨_, _, _, _, !ok, _, rfl, HK6.out, ?_, by simp only [List.length_append, List.length_singleton]; omega, by split <;> omega⟩
                      rw [← hre]
                      cases hw : wordP ts with
                      | none =>
                        rw [hw] at h1
                        simp only at h1
                        subst h1
                        simp [askP, stepA, hw]
                      | some x =>
                        obtain ⟨s, r⟩ := x
                        rw [hw] at h1
                        simp only at h1
                        obtain ⟨h1, h3⟩ := h1
                        cases ok
                        · simp [askP, stepA, hw, ← h1]
                        · obtain ⟨rfl, rfl⟩ := h3 rfl
                          simp [askP, stepA, hw, ← h1, putP]
                    · have hx1 : (((⟨#[117, 110, 107, 101, 121, 119, 111, 114, 100]⟩ : ByteArray).extract 0 2).toList == [117, 110]) = true := by kernel_rfl
                      have hx2 : (⟨#[117, 110, 107, 101, 121, 119, 111, 114, 100]⟩ : ByteArray).extract 2 9 = ⟨#[107, 101, 121, 119, 111, 114, 100]⟩ := by kernel_rfl
                      have hre := HRE4.out
                      rw [if_neg (by decide), askR_of (a := .un .keyword) (by kernel_rfl)] at hre
                      clear HRE4
                      go_wp2_with (first
                        | (go_at_call 50; refine (key_anyS HK5.out).mono ?_; rintro e w8 ⟨s8, ok, ws', rfl, hks, hwp, hle⟩; have HK8 := Lib.hid (hks.cast (Bool.false_or _)); have HW := Lib.hid hwp; have HL := Lib.hid (hle_of hle); clear hks hwp hle)
                        | (go_at_call 29; refine (addN_anyS HK8.out (tmT 6 .empty s8) rfl rfl (by omega)).mono ?_; rintro e w6 ⟨h6, rfl, hks⟩; have HK6 := Lib.hid hks; clear hks)
                        | (go_at_call 49; refine (not_anyS HK6.out (out.length : Nat) (by simp only [List.length_append, List.length_singleton]; omega)).mono ?_; rintro e w7 ⟨h7, rfl, hks⟩; have HK7 := Lib.hid hks; clear hks)
                        | fail)
                      go_ret
                      have h1 := HW.out
                      have h2 := HL.out
                      refine ⟨_, _, _, _, !ok, _, rfl, HK7.out, ?_, by simp only [List.length_append, List.length_singleton]; omega, by split <;> omega⟩
                      rw [← hre]
                      cases hw : wordP ts with
                      | none =>
                        rw [hw] at h1
                        simp only at h1
                        subst h1
                        simp [askP, stepA, hw, notP]
                      | some x =>
                        obtain ⟨s, r⟩ := x
                        rw [hw] at h1
                        simp only at h1
                        obtain ⟨h1, h3⟩ := h1
                        cases ok
                        · simp [askP, stepA, hw, ← h1, notP]
                        · obtain ⟨rfl, rfl⟩ := h3 rfl
                          simp [askP, stepA, hw, ← h1, putP, notP]
                  · have hot := other_anyS HR.out HK5.out HE.out (by omega) (by omega) T h12
                    have hre := HRE4.out
                    rw [if_neg (by rw [hp]; decide)] at hre
                    rw [hre] at hot
                    clear hre hp HRE4
                    rcases Nat.lt_or_ge 2 T.size with hl | hl
                    · have hl2 : (2 : Int) < (T.size : Int) := by omega
                      cases hu : ((T.extract 0 2).toList == [117, 110])
                      · have h6 := no6 h12
                        have hq0 := beq_no h6 (show [97, 110, 115, 119, 101, 114, 101, 100] ∈ keys6 by decide)
                        have hq1 := beq_no h6 (show [100, 101, 108, 101, 116, 101, 100] ∈ keys6 by decide)
                        have hq2 := beq_no h6 (show [100, 114, 97, 102, 116] ∈ keys6 by decide)
                        have hq3 := beq_no h6 (show [102, 108, 97, 103, 103, 101, 100] ∈ keys6 by decide)
                        have hq4 := beq_no h6 (show [115, 101, 101, 110] ∈ keys6 by decide)
                        have hq5 := beq_no h6 (show [107, 101, 121, 119, 111, 114, 100] ∈ keys6 by decide)
                        clear h6 h12
                        go_wp2_with (first
                          | (go_at_call 51; refine hot.mono ?_; intro e w7 hr5; have HR5 := Lib.hid hr5; obtain ⟨k5, ws5, out5, mod5, bad5, h5, rfl, hk5, _⟩ := hr5; clear hk5)
                          | fail)
                        go_ret
                        obtain ⟨k6, ws6, out6, mod6, bad6, h6, q1, q2, q3, q4, q5⟩ := HR5.out
                        injection q1 with q1
                        injection q1 with _ q1
                        subst q1
                        exact ⟨_, _, _, _, _, _, rfl, q2, q3, by omega, by omega⟩
                      · have h6 := un_no h12 hu
                        have hq0 := beq_no h6 (show [97, 110, 115, 119, 101, 114, 101, 100] ∈ keys6 by decide)
                        have hq1 := beq_no h6 (show [100, 101, 108, 101, 116, 101, 100] ∈ keys6 by decide)
                        have hq2 := beq_no h6 (show [100, 114, 97, 102, 116] ∈ keys6 by decide)
                        have hq3 := beq_no h6 (show [102, 108, 97, 103, 103, 101, 100] ∈ keys6 by decide)
                        have hq4 := beq_no h6 (show [115, 101, 101, 110] ∈ keys6 by decide)
                        have hq5 := beq_no h6 (show [107, 101, 121, 119, 111, 114, 100] ∈ keys6 by decide)
                        clear h6 h12
                        go_wp2_with (first
                          | (go_at_call 51; refine hot.mono ?_; intro e w7 hr5; have HR5 := Lib.hid hr5; obtain ⟨k5, ws5, out5, mod5, bad5, h5, rfl, hk5, _⟩ := hr5; clear hk5)
                          | fail)
                        go_ret
                        obtain ⟨k6, ws6, out6, mod6, bad6, h6, q1, q2, q3, q4, q5⟩ := HR5.out
                        injection q1 with q1
                        injection q1 with _ q1
                        subst q1
                        exact ⟨_, _, _, _, _, _, rfl, q2, q3, by omega, by omega⟩
                    · have hl2 : ¬ (2 : Int) < (T.size : Int) := by omega
                      have h6 := no6 h12
                      have hq0 := beq_no h6 (show [97, 110, 115, 119, 101, 114, 101, 100] ∈ keys6 by decide)
                      have hq1 := beq_no h6 (show [100, 101, 108, 101, 116, 101, 100] ∈ keys6 by decide)
                      have hq2 := beq_no h6 (show [100, 114, 97, 102, 116] ∈ keys6 by decide)
                      have hq3 := beq_no h6 (show [102, 108, 97, 103, 103, 101, 100] ∈ keys6 by decide)
                      have hq4 := beq_no h6 (show [115, 101, 101, 110] ∈ keys6 by decide)
                      have hq5 := beq_no h6 (show [107, 101, 121, 119, 111, 114, 100] ∈ keys6 by decide)
                      clear h6 h12
                      go_wp2_with (first
                        | (go_at_call 51; refine hot.mono ?_; intro e w7 hr5; have HR5 := Lib.hid hr5; obtain ⟨k5, ws5, out5, mod5, bad5, h5, rfl, hk5, _⟩ := hr5; clear hk5)
                        | fail)
                      go_ret
                      obtain ⟨k6, ws6, out6, mod6, bad6, h6, q1, q2, q3, q4, q5⟩ := HR5.out
                      injection q1 with q1
                      injection q1 with _ q1
                      subst q1
                      exact ⟨_, _, _, _, _, _, rfl, q2, q3, by omega, by omega⟩
              · have c48b : (T[0].toNat : Int) < 48 := by omega
                have hp : isPlace T = false := by rw [hpc, decide_eq_false c42, decide_eq_false c48]; simp
                clear hpc
                by_cases h12 : T.data.toList ∈ keys12
                · exact absurd h12 (no48 (by omega) c48b)
                · have hot := other_anyS HR.out HK5.out HE.out (by omega) (by omega) T h12
                  have hre := HRE4.out
                  rw [if_neg (by rw [hp]; decide)] at hre
                  rw [hre] at hot
                  clear hre hp HRE4
                  rcases Nat.lt_or_ge 2 T.size with hl | hl
                  · have hl2 : (2 : Int) < (T.size : Int) := by omega
                    cases hu : ((T.extract 0 2).toList == [117, 110])
                    · have h6 := no6 h12
                      have hq0 := beq_no h6 (show [97, 110, 115, 119, 101, 114, 101, 100] ∈ keys6 by decide)
                      have hq1 := beq_no h6 (show [100, 101, 108, 101, 116, 101, 100] ∈ keys6 by decide)
                      have hq2 := beq_no h6 (show [100, 114, 97, 102, 116] ∈ keys6 by decide)
                      have hq3 := beq_no h6 (show [102, 108, 97, 103, 103, 101, 100] ∈ keys6 by decide)
                      have hq4 := beq_no h6 (show [115, 101, 101, 110] ∈ keys6 by decide)
                      have hq5 := beq_no h6 (show [107, 101, 121, 119, 111, 114, 100] ∈ keys6 by decide)
                      clear h6 h12
                      go_wp2_with (first
                        | (go_at_call 51; refine hot.mono ?_; intro e w7 hr5; have HR5 := Lib.hid hr5; obtain ⟨k5, ws5, out5, mod5, bad5, h5, rfl, hk5, _⟩ := hr5; clear hk5)
                        | fail)
                      go_ret
                      obtain ⟨k6, ws6, out6, mod6, bad6, h6, q1, q2, q3, q4, q5⟩ := HR5.out
                      injection q1 with q1
                      injection q1 with _ q1
                      subst q1
                      exact ⟨_, _, _, _, _, _, rfl, q2, q3, by omega, by omega⟩
                    · have h6 := un_no h12 hu
                      have hq0 := beq_no h6 (show [97, 110, 115, 119, 101, 114, 101, 100] ∈ keys6 by decide)
                      have hq1 := beq_no h6 (show [100, 101, 108, 101, 116, 101, 100] ∈ keys6 by decide)
                      have hq2 := beq_no h6 (show [100, 114, 97, 102, 116] ∈ keys6 by decide)
                      have hq3 := beq_no h6 (show [102, 108, 97, 103, 103, 101, 100] ∈ keys6 by decide)
                      have hq4 := beq_no h6 (show [115, 101, 101, 110] ∈ keys6 by decide)
                      have hq5 := beq_no h6 (show [107, 101, 121, 119, 111, 114, 100] ∈ keys6 by decide)
                      clear h6 h12
                      go_wp2_with (first
                        | (go_at_call 51; refine hot.mono ?_; intro e w7 hr5; have HR5 := Lib.hid hr5; obtain ⟨k5, ws5, out5, mod5, bad5, h5, rfl, hk5, _⟩ := hr5; clear hk5)
                        | fail)
                      go_ret
                      obtain ⟨k6, ws6, out6, mod6, bad6, h6, q1, q2, q3, q4, q5⟩ := HR5.out
                      injection q1 with q1
                      injection q1 with _ q1
                      subst q1
                      exact ⟨_, _, _, _, _, _, rfl, q2, q3, by omega, by omega⟩
                  · have hl2 : ¬ (2 : Int) < (T.size : Int) := by omega
                    have h6 := no6 h12
                    have hq0 := beq_no h6 (show [97, 110, 115, 119, 101, 114, 101, 100] ∈ keys6 by decide)
                    have hq1 := beq_no h6 (show [100, 101, 108, 101, 116, 101, 100] ∈ keys6 by decide)
                    have hq2 := beq_no h6 (show [100, 114, 97, 102, 116] ∈ keys6 by decide)
                    have hq3 := beq_no h6 (show [102, 108, 97, 103, 103, 101, 100] ∈ keys6 by decide)
                    have hq4 := beq_no h6 (show [115, 101, 101, 110] ∈ keys6 by decide)
                    have hq5 := beq_no h6 (show [107, 101, 121, 119, 111, 114, 100] ∈ keys6 by decide)
                    clear h6 h12
                    go_wp2_with (first
                      | (go_at_call 51; refine hot.mono ?_; intro e w7 hr5; have HR5 := Lib.hid hr5; obtain ⟨k5, ws5, out5, mod5, bad5, h5, rfl, hk5, _⟩ := hr5; clear hk5)
                      | fail)
                    go_ret
                    obtain ⟨k6, ws6, out6, mod6, bad6, h6, q1, q2, q3, q4, q5⟩ := HR5.out
                    injection q1 with q1
                    injection q1 with _ q1
                    subst q1
                    exact ⟨_, _, _, _, _, _, rfl, q2, q3, by omega, by omega⟩
        · have hk1b : (k != 1) = true := by simpa using hk1
          rw [if_pos hk1] at hre
          go_wp2
          go_ret
          exact ⟨_, _, _, _, true, _, rfl, HBAD.out, hre.symm, by omega, by simp⟩
end

end Go.Proofs.YtnfabgbidkddhaaGreatDoor
