/-
  The walk of pillarboxlaw18.StoreNews.
-/
import Derived.Test.YtmbibhphpjmboaaGreatDoorNewSM
import Derived.Test.YtmbibhphpjmboaaGreatDoorSameWM
import Derived.Test.YtmbibhphpjmboaaGreatDoorGF
import Derived.Laws.StructEq
namespace Go.Proofs.YtmbibhphpjmboaaGreatDoor
open Go.Shelf Go.RowKit
attribute [local go_sem ↓] Go.wp_at_zero Go.wp_at_succ

theorem first_bad (mf : Nat → Int) : ∀ n, ∃ k0, k0 ≤ n ∧ (∀ j, j < k0 → lim (mf j)) ∧ (k0 < n → ¬ lim (mf k0))
  | 0 => ⟨0, by omega, fun j h => absurd h (by omega), fun h => absurd h (by omega)⟩
  | n + 1 => by
    obtain ⟨k0, h1, h2, h3⟩ := first_bad mf n
    by_cases hk : k0 < n
    · exact ⟨k0, by omega, h2, fun _ => h3 hk⟩
    · have hkn : k0 = n := by omega
      subst hkn
      by_cases hl : lim (mf k0)
      · refine ⟨k0 + 1, by omega, fun j hj => ?_, fun h => absurd h (by omega)⟩
        by_cases hj2 : j < k0
        · exact h2 j hj2
        · obtain rfl : j = k0 := by omega
          exact hl
      · exact ⟨k0, by omega, h2, fun _ => hl⟩

set_option maxRecDepth 100000 in
set_option maxHeartbeats 4000000 in
theorem newS_any (u p : Text) (hu : u.length ≤ 140737488351232) (hp : p.length ≤ 140737488351232) (m1 m2 m3 m4 m5 m6 m7 : Int) (k0 : Nat) (h7 : k0 ≤ 7) (hgood : ∀ j, j < k0 → lim (msF m1 m2 m3 m4 m5 m6 m7 j)) (hbad : k0 < 7 → ¬ lim (msF m1 m2 m3 m4 m5 m6 m7 k0)) (ok : Bool) (hok : ok = (decide (k0 = 7) && (atomL u && atomL p))) (w : World) :
    Calls Tryz.prog 16 #[.agg #[.string ⟨u.toArray⟩, .string ⟨p.toArray⟩, .int .i64 m1, .int .i64 m2, .int .i64 m3, .int .i64 m4, .int .i64 m5, .int .i64 m6, .int .i64 m7]] w (NewOut w ⟨u, p, m1, m2, m3, m4, m5, m6, m7⟩ ok) := by
  have hU := fun W => atomT_any u hu W
  have hP := fun W => atomT_any p hp W
  cases hau : atomL u with
  | true =>
    cases hap : atomL p with
    | true =>
      have h1 := newS_num u p hu hp hau hap m1 m2 m3 m4 m5 m6 m7 k0 h7 hgood hbad w
      rw [hau, hap] at hok
      rw [show ok = decide (k0 = 7) by rw [hok]; simp]
      exact h1
    | false =>
      rw [hau] at hU
      rw [hap] at hP
      have HOF : Hid (ok = false) := Lib.hid (by rw [hok, hap]; simp)
      have HB0 := Lib.hid (below_alloc1 w (.cells #[.string ⟨u.toArray⟩, .string ⟨p.toArray⟩, .int .i64 m1, .int .i64 m2, .int .i64 m3, .int .i64 m4, .int .i64 m5, .int .i64 m6, .int .i64 m7] 29))
      clear hok hgood hbad hau hap hu hp
      go_enter Tryz.func16, Tryz.ntmps16
      go_wp2_with (first
        | (go_at_call 48; (with_reducible refine (hU _).mono ?_); rintro e w1 ⟨rfl, rfl⟩; clear hU)
        | (go_at_call 48; (with_reducible refine (hP _).mono ?_); rintro e w1 ⟨rfl, rfl⟩; clear hP)
        | fail)
      go_ret2
      exact ⟨fun h => absurd h (by rw [HOF.out]; decide), fun _ => ⟨rfl, HB0.out⟩⟩
  | false =>
    rw [hau] at hU
    have HOF : Hid (ok = false) := Lib.hid (by rw [hok, hau]; simp)
    have HB0 := Lib.hid (below_alloc1 w (.cells #[.string ⟨u.toArray⟩, .string ⟨p.toArray⟩, .int .i64 m1, .int .i64 m2, .int .i64 m3, .int .i64 m4, .int .i64 m5, .int .i64 m6, .int .i64 m7] 29))
    clear hok hgood hbad hau hu hp hP
    go_enter Tryz.func16, Tryz.ntmps16
    go_wp2_with (first
      | (go_at_call 48; (with_reducible refine (hU _).mono ?_); rintro e w1 ⟨rfl, rfl⟩; clear hU)
      | fail)
    go_ret2
    exact ⟨fun h => absurd h (by rw [HOF.out]; decide), fun _ => ⟨rfl, HB0.out⟩⟩

set_option maxRecDepth 100000 in
theorem configOf_any (w : World) (g : Nat) (q : Lies) (x : Acc) (h : StoreAt w g q x) (u p : Text) (m1 m2 m3 m4 m5 m6 m7 : Int) (hc : x.cfg = ⟨u, p, m1, m2, m3, m4, m5, m6, m7⟩) :
    Calls Tryz.prog 23 #[.pointer (some ⟨g, 0, none⟩)] w fun e w' => e = .returned (.agg #[.string ⟨u.toArray⟩, .string ⟨p.toArray⟩, .int .i64 m1, .int .i64 m2, .int .i64 m3, .int .i64 m4, .int .i64 m5, .int .i64 m6, .int .i64 m7]) ∧ Below w.heap.size w w' := by
  have hcell : ∀ j, j < 9 → w.cell? ⟨g, j, none⟩ = (cellsC ⟨u, p, m1, m2, m3, m4, m5, m6, m7⟩)[j]? := fun j hj => by
    rw [h.cells j, ← hc]
    unfold cellsS
    rw [List.getElem?_append_left (by simpa [cellsC] using hj)]
  have c0 : w.cell? ⟨g, 0, none⟩ = some (.string ⟨u.toArray⟩) := hcell 0 (by omega)
  have c1 : w.cell? ⟨g, 1, none⟩ = some (.string ⟨p.toArray⟩) := hcell 1 (by omega)
  have c2 : w.cell? ⟨g, 2, none⟩ = some (.int .i64 m1) := hcell 2 (by omega)
  have c3 : w.cell? ⟨g, 3, none⟩ = some (.int .i64 m2) := hcell 3 (by omega)
  have c4 : w.cell? ⟨g, 4, none⟩ = some (.int .i64 m3) := hcell 4 (by omega)
  have c5 : w.cell? ⟨g, 5, none⟩ = some (.int .i64 m4) := hcell 5 (by omega)
  have c6 : w.cell? ⟨g, 6, none⟩ = some (.int .i64 m5) := hcell 6 (by omega)
  have c7 : w.cell? ⟨g, 7, none⟩ = some (.int .i64 m6) := hcell 7 (by omega)
  have c8 : w.cell? ⟨g, 8, none⟩ = some (.int .i64 m7) := hcell 8 (by omega)
  have hgl := h.blk.lt
  clear hcell h hc
  go_enter Tryz.func23, Tryz.ntmps23
  go_wp2_with fail
  refine bodyPost_ret (v := .agg #[.string ⟨u.toArray⟩, .string ⟨p.toArray⟩, .int .i64 m1, .int .i64 m2, .int .i64 m3, .int .i64 m4, .int .i64 m5, .int .i64 m6, .int .i64 m7]) ?_ rfl ⟨rfl, ?_⟩
  · simp [results, Tryz.results23, go_sem]
  · exact below_alloc1 w _

set_option maxRecDepth 100000 in
set_option maxHeartbeats 8000000 in
theorem storeNews_any (happ : AppendOk) (u p : Text) (m1 m2 m3 m4 m5 m6 m7 : Int) (w : World) :
    Calls Tryz.prog 4 #[.agg #[.string ⟨u.toArray⟩, .string ⟨p.toArray⟩, .int .i64 m1, .int .i64 m2, .int .i64 m3, .int .i64 m4, .int .i64 m5, .int .i64 m6, .int .i64 m7]] w fun e w' => e = .returned (.bool true) ∧ Below w.heap.size w w' := by
  have haw := fun W => awake_any happ W
  obtain ⟨nu, hnu⟩ : ∃ nu, u.length = nu := ⟨_, rfl⟩
  obtain ⟨np, hnp⟩ : ∃ np, p.length = np := ⟨_, rfl⟩
  have su : (⟨u.toArray⟩ : ByteArray).size = nu := by rw [← hnu]; simp [ByteArray.size]
  have sp : (⟨p.toArray⟩ : ByteArray).size = np := by rw [← hnp]; simp [ByteArray.size]
  have HBX0 := Lib.hid (below_alloc1 w (.cells #[.string ⟨u.toArray⟩, .string ⟨p.toArray⟩, .int .i64 m1, .int .i64 m2, .int .i64 m3, .int .i64 m4, .int .i64 m5, .int .i64 m6, .int .i64 m7] 29))
  have HKX0 := Lib.hid (Blk.new w 29 #[.string ⟨u.toArray⟩, .string ⟨p.toArray⟩, .int .i64 m1, .int .i64 m2, .int .i64 m3, .int .i64 m4, .int .i64 m5, .int .i64 m6, .int .i64 m7])
  by_cases g1 : 300 < nu
  · have g1z : (300 : Int) < (nu : Int) := by omega
    clear happ hnu hnp
    go_enter Tryz.func4, Tryz.ntmps4
    go_wp2_with (first
      | (go_at_call 15; refine (haw _).mono ?_; rintro e5 w5 ⟨rfl, hb⟩; have HB5 := Lib.hid (below_then HBX0.out hb); clear hb haw)
      | fail)
    go_ret
    exact ⟨rfl, HB5.out⟩
  · have g1z : ¬ (300 : Int) < (nu : Int) := by omega
    by_cases g2 : 300 < np
    · have g2z : (300 : Int) < (np : Int) := by omega
      clear happ hnu hnp
      go_enter Tryz.func4, Tryz.ntmps4
      go_wp2_with (first
        | (go_at_call 15; refine (haw _).mono ?_; rintro e5 w5 ⟨rfl, hb⟩; have HB5 := Lib.hid (below_then HBX0.out hb); clear hb haw)
        | fail)
      go_ret
      exact ⟨rfl, HB5.out⟩
    · have g2z : ¬ (300 : Int) < (np : Int) := by omega
      obtain ⟨k0, h7, hgood, hbad⟩ := first_bad (msF m1 m2 m3 m4 m5 m6 m7) 7
      obtain ⟨ok, hok⟩ : ∃ ok, ok = (decide (k0 = 7) && (atomL u && atomL p)) := ⟨_, rfl⟩
      have hN := fun W => newS_any u p (by omega) (by omega) m1 m2 m3 m4 m5 m6 m7 k0 h7 hgood hbad ok hok W
      have hR := fun W => refNew_num u p (by omega) (by omega) m1 m2 m3 m4 m5 m6 m7 k0 h7 hgood hbad ok hok W
      have HFIT : Hid (ok = true → Fit (newP ⟨u, p, m1, m2, m3, m4, m5, m6, m7⟩)) := Lib.hid (fun h => newP_fit (by
        have hk7 : k0 = 7 := by
          rw [hok] at h
          simp at h
          exact h.1
        have l1 : lim m1 := hgood 0 (by omega)
        have l2 : lim m2 := hgood 1 (by omega)
        have l3 : lim m3 := hgood 2 (by omega)
        have l4 : lim m4 := hgood 3 (by omega)
        have l5 : lim m5 := hgood 4 (by omega)
        have l6 : lim m6 := hgood 5 (by omega)
        have l7 : lim m7 := hgood 6 (by omega)
        exact ⟨l1, l2, l3, l4, l5, l6, l7⟩))
      clear happ hnu hnp hgood hbad hok h7
      cases ok with
      | false =>
        go_enter Tryz.func4, Tryz.ntmps4
        go_wp2_with (first
          | (go_at_call 16; refine (hN _).mono ?_; rintro e1 w2 ⟨_, ho⟩; obtain ⟨rfl, hb2⟩ := ho rfl; have HB2 := Lib.hid (below_then HBX0.out hb2); have hk := HKX0.out.below hb2 HKX0.out.lt; have HK2 := Lib.hid hk; have a0 : w2.cell? ⟨w.heap.size, 0, none⟩ = some (.string ⟨u.toArray⟩) := hk.cell 0; have a1 : w2.cell? ⟨w.heap.size, 1, none⟩ = some (.string ⟨p.toArray⟩) := hk.cell 1; have a2 : w2.cell? ⟨w.heap.size, 2, none⟩ = some (.int .i64 m1) := hk.cell 2; have a3 : w2.cell? ⟨w.heap.size, 3, none⟩ = some (.int .i64 m2) := hk.cell 3; have a4 : w2.cell? ⟨w.heap.size, 4, none⟩ = some (.int .i64 m3) := hk.cell 4; have a5 : w2.cell? ⟨w.heap.size, 5, none⟩ = some (.int .i64 m4) := hk.cell 5; have a6 : w2.cell? ⟨w.heap.size, 6, none⟩ = some (.int .i64 m5) := hk.cell 6; have a7 : w2.cell? ⟨w.heap.size, 7, none⟩ = some (.int .i64 m6) := hk.cell 7; have a8 : w2.cell? ⟨w.heap.size, 8, none⟩ = some (.int .i64 m7) := hk.cell 8; clear hN hb2 ho hk)
          | (go_at_call 21; refine (hR _).mono ?_; rintro e1 w3 ⟨_, ho⟩; obtain ⟨rfl, hb3⟩ := ho rfl; have HB3 := Lib.hid (below_then HB2.out hb3); have HK3 := Lib.hid (HK2.out.below hb3 HK2.out.lt); clear hR hb3 ho)
          | (go_at_call 18; refine (num_any _ _).mono ?_; rintro e1 wn ⟨rfl, rfl⟩)
          | fail)
        have HK : Hid (∀ W, Below w3.heap.size w3 W → W.cell? ⟨w.heap.size, 0, none⟩ = some (.string ⟨u.toArray⟩)) := Lib.hid (fun W hb => (HK3.out.below hb HK3.out.lt).cell 0)
        have b0 := HK.out w3 (Below.refl _ _)
        clear a0 a1 a2 a3 a4 a5 a6 a7 a8
        refine wp_region_held_drew (S := fun _ => True) (by kernel_rfl) trivial (fun hHeld => ?_)
        refine wpAnyH_take (i := 0) (oi := _) (v := .pointer none) rfl (by kernel_rfl) (by kernel_rfl) (by kernel_rfl) (fun _ _ _ h => h) (Or.inl ⟨by rfl, ?_⟩) (by trivial) ?_
        · intro w _
          go_simp
        simp only [Act.put, List.setIfInBounds_toArray, List.set_cons_zero, List.set_cons_succ, List.getElem_toArray, List.getElem_cons_zero]
        refine wpAnyH_take (i := 1) (oi := _) (v := .bool true) rfl (by kernel_rfl) (by kernel_rfl) (by kernel_rfl) (fun _ _ _ h => h) (Or.inl ⟨by rfl, ?_⟩) (by trivial) ?_
        · intro w _
          go_simp
        simp only [Act.put, List.setIfInBounds_toArray, List.set_cons_zero, List.set_cons_succ, List.getElem_toArray, List.getElem_cons_succ, List.getElem_cons_zero]
        refine wpAnyH_take (i := 2) (oi := _) (v := .bool true) rfl (by kernel_rfl) (by kernel_rfl) (by kernel_rfl) (fun _ _ _ h => h) (Or.inl ⟨by rfl, ?_⟩) (by trivial) ?_
        · intro w _
          go_simp
        simp only [Act.put, List.setIfInBounds_toArray, List.set_cons_zero, List.set_cons_succ, List.getElem_toArray, List.getElem_cons_succ, List.getElem_cons_zero]
        refine wpAnyH_take (i := 3) (oi := _) (v := undef) rfl (by kernel_rfl) (by kernel_rfl) (by kernel_rfl) (fun _ _ _ h => h) (Or.inr ⟨by rfl, rfl⟩) (by trivial) ?_
        simp only [Act.put, List.setIfInBounds_toArray, List.set_cons_zero, List.set_cons_succ, List.getElem_toArray, List.getElem_cons_succ, List.getElem_cons_zero]
        refine wpAnyH_take (i := 4) (oi := _) (v := undef) rfl (by kernel_rfl) (by kernel_rfl) (by kernel_rfl) (fun _ _ _ h => h) (Or.inr ⟨by rfl, rfl⟩) (by trivial) ?_
        simp only [Act.put, List.setIfInBounds_toArray, List.set_cons_zero, List.set_cons_succ, List.getElem_toArray, List.getElem_cons_succ, List.getElem_cons_zero]
        refine wpAnyH_take (i := 5) (oi := _) (v := undef) rfl (by kernel_rfl) (by kernel_rfl) (by kernel_rfl) (fun _ _ _ h => h) (Or.inr ⟨by rfl, rfl⟩) (by trivial) ?_
        simp only [Act.put, List.setIfInBounds_toArray, List.set_cons_zero, List.set_cons_succ, List.getElem_toArray, List.getElem_cons_succ, List.getElem_cons_zero]
        refine wpAnyH_take (i := 6) (oi := _) (v := undef) rfl (by kernel_rfl) (by kernel_rfl) (by kernel_rfl) (fun _ _ _ h => h) (Or.inr ⟨by rfl, rfl⟩) (by trivial) ?_
        simp only [Act.put, List.setIfInBounds_toArray, List.set_cons_zero, List.set_cons_succ, List.getElem_toArray, List.getElem_cons_succ, List.getElem_cons_zero]
        refine wpAnyH_take (i := 7) (oi := _) (v := undef) rfl (by kernel_rfl) (by kernel_rfl) (by kernel_rfl) (fun _ _ _ h => h) (Or.inr ⟨by rfl, rfl⟩) (by trivial) ?_
        simp only [Act.put, List.setIfInBounds_toArray, List.set_cons_zero, List.set_cons_succ, List.getElem_toArray, List.getElem_cons_succ, List.getElem_cons_zero]
        refine wpAnyH_take (i := 8) (oi := _) (v := undef) rfl (by kernel_rfl) (by kernel_rfl) (by kernel_rfl) (fun _ _ _ h => h) (Or.inr ⟨by rfl, rfl⟩) (by trivial) ?_
        simp only [Act.put, List.setIfInBounds_toArray, List.set_cons_zero, List.set_cons_succ, List.getElem_toArray, List.getElem_cons_succ, List.getElem_cons_zero]
        refine wpAnyH_take (i := 9) (oi := _) (v := undef) rfl (by kernel_rfl) (by kernel_rfl) (by kernel_rfl) (fun _ _ _ h => h) (Or.inr ⟨by rfl, rfl⟩) (by trivial) ?_
        simp only [Act.put, List.setIfInBounds_toArray, List.set_cons_zero, List.set_cons_succ, List.getElem_toArray, List.getElem_cons_succ, List.getElem_cons_zero]
        refine wpAnyH_take (i := 10) (oi := _) (v := undef) rfl (by kernel_rfl) (by kernel_rfl) (by kernel_rfl) (fun _ _ _ h => h) (Or.inr ⟨by rfl, rfl⟩) (by trivial) ?_
        simp only [Act.put, List.setIfInBounds_toArray, List.set_cons_zero, List.set_cons_succ, List.getElem_toArray, List.getElem_cons_succ, List.getElem_cons_zero]
        refine wpAnyH_take (i := 11) (oi := _) (v := undef) rfl (by kernel_rfl) (by kernel_rfl) (by kernel_rfl) (fun _ _ _ h => h) (Or.inr ⟨by rfl, rfl⟩) (by trivial) ?_
        simp only [Act.put, List.setIfInBounds_toArray, List.set_cons_zero, List.set_cons_succ, List.getElem_toArray, List.getElem_cons_succ, List.getElem_cons_zero]
        refine wpAnyH_take (i := 12) (oi := _) (v := .bool true) rfl (by kernel_rfl) (by kernel_rfl) (by kernel_rfl) (fun _ _ _ h => h) (Or.inl ⟨by rfl, ?_⟩) (by trivial) ?_
        · intro w _
          go_simp
        simp only [Act.put, List.setIfInBounds_toArray, List.set_cons_zero, List.set_cons_succ, List.getElem_toArray, List.getElem_cons_succ, List.getElem_cons_zero]
        refine wpAnyH_take (i := 13) (oi := _) (v := .bool true) rfl (by kernel_rfl) (by kernel_rfl) (by kernel_rfl) (fun _ _ _ h => h) (Or.inl ⟨by rfl, ?_⟩) (by trivial) ?_
        · intro w _
          go_simp
        simp only [Act.put, List.setIfInBounds_toArray, List.set_cons_zero, List.set_cons_succ, List.getElem_toArray, List.getElem_cons_succ, List.getElem_cons_zero]
        refine wpAnyH_ready (rs := [14]) (by kernel_rfl) (by simp) ?_
        refine AllReadyH.cons (o := _) rfl (fun K hK => ?_) AllReadyH.nil
        go_simp
        go_wp2_with (first
          | (go_at_call 15; refine (haw _).mono ?_; rintro e5 w5 ⟨rfl, hb⟩; have HB5 : Hid (Below w3.heap.size w3 w5) := Lib.hid (by first | exact hb | exact below_then (below_drew1 w3) hb); clear hb)
          | fail)
        refine hK.out _ _ trivial (fun _ => ?_)
        clear hK K
        refine wpAnyH_take (i := 15) (oi := _) (v := .bool true) rfl (by kernel_rfl) (by kernel_rfl) (by kernel_rfl) (fun _ _ _ h => h) (Or.inl ⟨by rfl, ?_⟩) (by trivial) ?_
        · intro w _
          go_simp
        simp only [Act.put, List.setIfInBounds_toArray, List.set_cons_zero, List.set_cons_succ, List.getElem_toArray, List.getElem_cons_succ, List.getElem_cons_zero]
        refine wpAnyH_take (i := 16) (oi := _) (v := .bool true) rfl (by kernel_rfl) (by kernel_rfl) (by kernel_rfl) (fun _ _ _ h => h) (Or.inl ⟨by rfl, ?_⟩) (by trivial) ?_
        · intro w _
          go_simp
        simp only [Act.put, List.setIfInBounds_toArray, List.set_cons_zero, List.set_cons_succ, List.getElem_toArray, List.getElem_cons_succ, List.getElem_cons_zero]
        refine wpAnyH_done (by kernel_rfl) ?_ _
        all_goals
          go_wp2_with fail
          go_ret
          exact ⟨rfl, below_then HB3.out HB5.out⟩
      | true =>
        go_enter Tryz.func4, Tryz.ntmps4
        go_wp2_with (first
          | (go_at_call 16; refine (hN _).mono ?_; rintro e1 w2 ⟨ho, _⟩; obtain ⟨g, q, rfl, hs2⟩ := ho rfl; have HS2 := Lib.hid hs2; have HB2 := Lib.hid (below_then HBX0.out hs2.below); have hk := HKX0.out.below hs2.below HKX0.out.lt; have HK2 := Lib.hid hk; have a0 : w2.cell? ⟨w.heap.size, 0, none⟩ = some (.string ⟨u.toArray⟩) := hk.cell 0; have a1 : w2.cell? ⟨w.heap.size, 1, none⟩ = some (.string ⟨p.toArray⟩) := hk.cell 1; have a2 : w2.cell? ⟨w.heap.size, 2, none⟩ = some (.int .i64 m1) := hk.cell 2; have a3 : w2.cell? ⟨w.heap.size, 3, none⟩ = some (.int .i64 m2) := hk.cell 3; have a4 : w2.cell? ⟨w.heap.size, 4, none⟩ = some (.int .i64 m3) := hk.cell 4; have a5 : w2.cell? ⟨w.heap.size, 5, none⟩ = some (.int .i64 m4) := hk.cell 5; have a6 : w2.cell? ⟨w.heap.size, 6, none⟩ = some (.int .i64 m5) := hk.cell 6; have a7 : w2.cell? ⟨w.heap.size, 7, none⟩ = some (.int .i64 m6) := hk.cell 7; have a8 : w2.cell? ⟨w.heap.size, 8, none⟩ = some (.int .i64 m7) := hk.cell 8; clear hN hs2 ho hk)
          | (go_at_call 21; refine (hR _).mono ?_; rintro e1 w3 ⟨ho, _⟩; obtain ⟨g2, q2, rfl, hs3⟩ := ho rfl; have HS3 := Lib.hid hs3; have HB3 := Lib.hid (below_then HB2.out hs3.below); have HK3 := Lib.hid (HK2.out.below hs3.below HK2.out.lt); have HST := Lib.hid (HS2.out.at_.later hs3.below); clear hR hs3 ho)
          | (go_at_call 18; refine (num_any _ _).mono ?_; rintro e1 wn ⟨rfl, rfl⟩)
          | fail)
        have HK : Hid (∀ W, Below w3.heap.size w3 W → W.cell? ⟨w.heap.size, 0, none⟩ = some (.string ⟨u.toArray⟩) ∧ W.cell? ⟨w.heap.size, 1, none⟩ = some (.string ⟨p.toArray⟩) ∧ W.cell? ⟨w.heap.size, 2, none⟩ = some (.int .i64 m1) ∧ W.cell? ⟨w.heap.size, 3, none⟩ = some (.int .i64 m2) ∧ W.cell? ⟨w.heap.size, 4, none⟩ = some (.int .i64 m3) ∧ W.cell? ⟨w.heap.size, 5, none⟩ = some (.int .i64 m4) ∧ W.cell? ⟨w.heap.size, 6, none⟩ = some (.int .i64 m5) ∧ W.cell? ⟨w.heap.size, 7, none⟩ = some (.int .i64 m6) ∧ W.cell? ⟨w.heap.size, 8, none⟩ = some (.int .i64 m7)) := Lib.hid (fun W hb => by
          have hk := HK3.out.below hb HK3.out.lt
          exact ⟨hk.cell 0, hk.cell 1, hk.cell 2, hk.cell 3, hk.cell 4, hk.cell 5, hk.cell 6, hk.cell 7, hk.cell 8⟩)
        have hsm : ∀ W, Below w3.heap.size w3 W → Calls Tryz.prog 22 #[.pointer (some ⟨g, 0, none⟩), .pointer (some ⟨g2, 0, none⟩)] W fun e w' => e = .returned (.bool true) ∧ Below W.heap.size W w' := fun W hb => same_any W g q g2 q2 _ (HST.out.later hb) (HS3.out.at_.later hb) (HFIT.out (by first | rfl | trivial))
        have hco := fun W (hb : Below w3.heap.size w3 W) => configOf_any W g q _ (HST.out.later hb) u p m1 m2 m3 m4 m5 m6 m7 rfl
        have HSM := Lib.hid hsm
        have HCO := Lib.hid hco
        clear hsm hco a0 a1 a2 a3 a4 a5 a6 a7 a8
        obtain ⟨b0, b1, b2, b3, b4, b5, b6, b7, b8⟩ := HK.out w3 (Below.refl _ _)
        go_region_held3 (fun W => W.cell? ⟨w.heap.size, 0, none⟩ = some (.string ⟨u.toArray⟩) ∧ W.cell? ⟨w.heap.size, 1, none⟩ = some (.string ⟨p.toArray⟩) ∧ W.cell? ⟨w.heap.size, 2, none⟩ = some (.int .i64 m1) ∧ W.cell? ⟨w.heap.size, 3, none⟩ = some (.int .i64 m2) ∧ W.cell? ⟨w.heap.size, 4, none⟩ = some (.int .i64 m3) ∧ W.cell? ⟨w.heap.size, 5, none⟩ = some (.int .i64 m4) ∧ W.cell? ⟨w.heap.size, 6, none⟩ = some (.int .i64 m5) ∧ W.cell? ⟨w.heap.size, 7, none⟩ = some (.int .i64 m6) ∧ W.cell? ⟨w.heap.size, 8, none⟩ = some (.int .i64 m7))
          (first
            | exact HK.out _ HB5.out
            | exact HK.out _ HBA.out
            | exact HK.out _ HB4.out
            | exact HK.out _ (Below.refl _ _)
            | exact HK.out _ (below_drew1 _)
            | go_keep)
          (first
            | (go_at_call 22; refine (HSM.out _ (by first | exact Below.refl _ _ | exact below_drew1 _)).mono ?_; rintro e4 w4 ⟨rfl, hb⟩; have HB4 : Hid (Below w3.heap.size w3 w4) := Lib.hid (by first | exact hb | exact below_then (below_drew1 w3) hb); clear hb)
            | (go_at_call 23; refine (HCO.out _ (by first | exact HB4.out | exact below_then HB4.out (below_drew1 _))).mono ?_; rintro e4 wA ⟨rfl, hbA⟩; have HBA : Hid (Below w3.heap.size w3 wA) := Lib.hid (by first | exact below_then HB4.out hbA | exact below_then (below_then HB4.out (below_drew1 _)) hbA); clear hbA)
            | (go_at_call 15; refine (haw _).mono ?_; rintro e5 w5 ⟨rfl, hb⟩; have HB5 : Hid (Below w3.heap.size w3 w5) := Lib.hid (by first | exact below_then HBA.out hb | exact below_then (below_then HBA.out (below_drew1 _)) hb | exact below_then HB4.out hb); clear hb)
            | fail)
        all_goals
          go_wp2_with fail
          go_ret
          exact ⟨rfl, below_then HB3.out HB5.out⟩

end Go.Proofs.YtmbibhphpjmboaaGreatDoor
