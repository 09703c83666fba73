/-
  The walks of store.New and of the reference's New at any config.
-/
import Derived.Test.YtmbibhphpjmboaaGreatDoorGD
import Derived.Test.YtmbibhphpjmboaaGreatDoorGZ
namespace Go.Proofs.YtmbibhphpjmboaaGreatDoor
open Go.Shelf Go.RowKit Go.Lib
attribute [local go_sem ↓] Go.wp_at_zero Go.wp_at_succ

/-- What a New does at a config that is right, or is not. -/
def NewOut (w : World) (c : CfgP) (ok : Bool) (e : Ending) (w' : World) : Prop := (ok = true → ∃ g q, e = .returned (.tuple #[.pointer (some ⟨g, 0, none⟩), .int .i64 0]) ∧ OwnStore w w' g q (newP c)) ∧ (ok = false → e = .returned (.tuple #[.pointer none, .int .i64 1]) ∧ Below w.heap.size w w')
def RNewOut (w : World) (c : CfgP) (ok : Bool) (e : Ending) (w' : World) : Prop := (ok = true → ∃ g q, e = .returned (.tuple #[.pointer (some ⟨g, 0, none⟩), .int .i64 0]) ∧ OwnRef w w' g q (newP c)) ∧ (ok = false → e = .returned (.tuple #[.pointer none, .int .i64 1]) ∧ Below w.heap.size w w')
def msF (m1 m2 m3 m4 m5 m6 m7 : Int) : Nat → Int
  | 0 => m1
  | 1 => m2
  | 2 => m3
  | 3 => m4
  | 4 => m5
  | 5 => m6
  | _ => m7
theorem atomT_any (u : Text) (hu : u.length ≤ 140737488351232) (W : World) : Calls Tryz.prog 48 #[.string ⟨u.toArray⟩] W fun e w' => e = .returned (.bool (atomL u)) ∧ W = w' := by
  have h := atom_any ⟨u.toArray⟩ W (by show u.toArray.size ≤ _; simpa using hu)
  simpa using h
theorem refAtomT_any (u : Text) (hu : u.length ≤ 140737488351232) (W : World) : Calls Tryz.prog 61 #[.string ⟨u.toArray⟩] W fun e w' => e = .returned (.bool (atomL u)) ∧ W = w' := by
  have h := refAtom_any ⟨u.toArray⟩ W (by show u.toArray.size ≤ _; simpa using hu)
  simpa using h

set_option maxRecDepth 100000 in
set_option maxHeartbeats 4000000 in
theorem newS_num (u p : Text) (hu : u.length ≤ 140737488351232) (hp : p.length ≤ 140737488351232) (au : atomL u = true) (ap : atomL p = true) (m1 m2 m3 m4 m5 m6 m7 : Int) (k0 : Nat) (h7 : k0 ≤ 7) (hgood : ∀ j, j < k0 → lim (msF m1 m2 m3 m4 m5 m6 m7 j)) (hbad : k0 < 7 → ¬ lim (msF m1 m2 m3 m4 m5 m6 m7 k0)) (w : World) :
    Calls Tryz.prog 16 #[.agg #[.string ⟨u.toArray⟩, .string ⟨p.toArray⟩, .int .i64 m1, .int .i64 m2, .int .i64 m3, .int .i64 m4, .int .i64 m5, .int .i64 m6, .int .i64 m7]] w (NewOut w ⟨u, p, m1, m2, m3, m4, m5, m6, m7⟩ (decide (k0 = 7))) := by
  have hU := fun W => atomT_any u hu W
  have hP := fun W => atomT_any p hp W
  rw [au] at hU
  rw [ap] at hP
  have hL : k0 = 7 → ∀ W, _ := fun h W => new_ok m6 W (by have h5 : lim m6 := hgood 5 (by omega); unfold lim at h5; omega)
  have hcells : ∀ k, k < 7 → ((w.alloc (.cells #[.string ⟨u.toArray⟩, .string ⟨p.toArray⟩, .int .i64 m1, .int .i64 m2, .int .i64 m3, .int .i64 m4, .int .i64 m5, .int .i64 m6, .int .i64 m7] 29)).alloc (.cells #[.int .i64 m1, .int .i64 m2, .int .i64 m3, .int .i64 m4, .int .i64 m5, .int .i64 m6, .int .i64 m7] 3)).cell? ⟨w.heap.size + 1, k, none⟩ = some (.int .i64 (msF m1 m2 m3 m4 m5 m6 m7 k)) := by
    intro k hk
    have hB := Blk.new (w.alloc (.cells #[.string ⟨u.toArray⟩, .string ⟨p.toArray⟩, .int .i64 m1, .int .i64 m2, .int .i64 m3, .int .i64 m4, .int .i64 m5, .int .i64 m6, .int .i64 m7] 29)) 3 #[.int .i64 m1, .int .i64 m2, .int .i64 m3, .int .i64 m4, .int .i64 m5, .int .i64 m6, .int .i64 m7]
    have hc := hB.cell k
    rw [show (w.alloc (.cells #[.string ⟨u.toArray⟩, .string ⟨p.toArray⟩, .int .i64 m1, .int .i64 m2, .int .i64 m3, .int .i64 m4, .int .i64 m5, .int .i64 m6, .int .i64 m7] 29)).heap.size = w.heap.size + 1 from by simp] at hc
    rw [hc]
    rcases k with _ | _ | _ | _ | _ | _ | _ | k
    · rfl
    · rfl
    · rfl
    · rfl
    · rfl
    · rfl
    · rfl
    · omega
  have HC := Lib.hid hcells
  have HG := Lib.hid hgood
  have HBAD := Lib.hid hbad
  have HA := Lib.hid ((Blk.new w 29 #[.string ⟨u.toArray⟩, .string ⟨p.toArray⟩, .int .i64 m1, .int .i64 m2, .int .i64 m3, .int .i64 m4, .int .i64 m5, .int .i64 m6, .int .i64 m7]).alloc (.cells #[.int .i64 m1, .int .i64 m2, .int .i64 m3, .int .i64 m4, .int .i64 m5, .int .i64 m6, .int .i64 m7] 3))
  have HB0 := Lib.hid (below_then (below_alloc1 w (.cells #[.string ⟨u.toArray⟩, .string ⟨p.toArray⟩, .int .i64 m1, .int .i64 m2, .int .i64 m3, .int .i64 m4, .int .i64 m5, .int .i64 m6, .int .i64 m7] 29)) (below_alloc1 _ (.cells #[.int .i64 m1, .int .i64 m2, .int .i64 m3, .int .i64 m4, .int .i64 m5, .int .i64 m6, .int .i64 m7] 3)))
  clear hcells hgood hbad au ap hu hp
  obtain ⟨mf, hmf⟩ : ∃ mf, msF m1 m2 m3 m4 m5 m6 m7 = mf := ⟨_, rfl⟩
  rw [hmf] at HC HG HBAD
  clear hmf
  go_enter Tryz.func16, Tryz.ntmps16
  go_wp2_with (first
    | (go_at_call 48; (with_reducible refine (hU _).mono ?_); rintro e w1 ⟨rfl, rfl⟩; clear hU)
    | (go_at_call 48; (with_reducible refine (hP _).mono ?_); rintro e w1 ⟨rfl, rfl⟩; clear hP)
    | fail)
  go_loop [35] (fun i => ∃ k : Nat, k ≤ k0 ∧ i = .int .i64 k) (fun i => k0 + 1 - (intOf i).toNat)
  case atStart => exact ⟨0, Nat.zero_le _, rfl⟩
  case round =>
    obtain ⟨k, hk, rfl⟩ := hrel
    by_cases hlt : k < k0
    · have hc := HC.out k (by omega)
      obtain ⟨hm1, hm2⟩ := HG.out k hlt
      obtain ⟨m, hm⟩ : ∃ m, mf k = m := ⟨_, rfl⟩
      rw [hm] at hc hm1 hm2
      have hk1 : (k : Int) < 7 := by omega
      have n1 : ¬ m < 1 := by omega
      have n2 : ¬ 2147483647 < m := by omega
      clear hm
      go_wp2_with fail
      refine ⟨?_, by simp [intOf]; omega⟩
      first | exact ⟨k + 1, by omega, by go_num⟩ | ((repeat apply Exists.intro); exact ⟨⟨k + 1, by omega, by go_num⟩, rfl⟩)
    · have hk0 : k = k0 := by omega
      subst hk0
      by_cases hk7 : k < 7
      · have hc := HC.out k hk7
        have hb := HBAD.out hk7
        obtain ⟨m, hm⟩ : ∃ m, mf k = m := ⟨_, rfl⟩
        rw [hm] at hc hb
        have hk1 : (k : Int) < 7 := by omega
        clear hm
        by_cases n1 : m < 1
        · go_wp2_with fail
          go_ret2
          exact ⟨fun h => absurd h (by rw [decide_eq_false (by omega)]; decide), fun _ => ⟨rfl, HB0.out⟩⟩
        · have n2 : 2147483647 < m := by
            unfold lim at hb
            omega
          go_wp2_with fail
          go_ret2
          exact ⟨fun h => absurd h (by rw [decide_eq_false (by omega)]; decide), fun _ => ⟨rfl, HB0.out⟩⟩
      · have hk7' : k = 7 := by omega
        subst hk7'
        have hl0 := hL rfl
        clear HC hL
        go_wp2_with (first
          | (go_at_call 49; refine (hl0 _).mono ?_; rintro e w3 ⟨rfl, hl, hb, hlt3⟩; have hA3 := HA.out.below hb (by simp; omega); have d0 : w3.cell? ⟨w.heap.size, 0, none⟩ = some (.string ⟨u.toArray⟩) := hA3.cell 0; have d1 : w3.cell? ⟨w.heap.size, 1, none⟩ = some (.string ⟨p.toArray⟩) := hA3.cell 1; have d2 : w3.cell? ⟨w.heap.size, 2, none⟩ = some (.int .i64 m1) := hA3.cell 2; have d3 : w3.cell? ⟨w.heap.size, 3, none⟩ = some (.int .i64 m2) := hA3.cell 3; have d4 : w3.cell? ⟨w.heap.size, 4, none⟩ = some (.int .i64 m3) := hA3.cell 4; have d5 : w3.cell? ⟨w.heap.size, 5, none⟩ = some (.int .i64 m4) := hA3.cell 5; have d6 : w3.cell? ⟨w.heap.size, 6, none⟩ = some (.int .i64 m5) := hA3.cell 6; have d7 : w3.cell? ⟨w.heap.size, 7, none⟩ = some (.int .i64 m6) := hA3.cell 7; have d8 : w3.cell? ⟨w.heap.size, 8, none⟩ = some (.int .i64 m7) := hA3.cell 8; have HB3 := Lib.hid (below_then HB0.out hb); have HL3 := Lib.hid hl; clear hb hl hl0 hA3)
          | (go_at_call 50; (refine (atomStore_any (w3.heap.size + 1) 9 0 1 _ ((blk_new2 w3 _ _ _).cell 9) ((blk_new2 w3 _ _ _).frozen 9)).mono ?_; rintro e w4 ⟨rfl, rfl⟩))
          | fail)
        go_ret2
        have hl3 := HL3.out
        simp only [World.size_alloc] at hl3
        have hlt4 : w.heap.size + 1 + 1 < w3.heap.size := by simpa using hlt3
        have hsz := HB3.out.size
        refine ⟨fun _ => ⟨w3.heap.size + 1, ⟨w.heap.size + 1 + 1, none, some w3.heap.size, none, .slice (some ⟨w3.heap.size, 0, none⟩) 1 1, .slice none 0 0, []⟩, rfl, ⟨storeAt_new (blk_new2 w3 _ _ _) (hl3.chg (((Chg.refl [] w3).alloc _).alloc _) (by simp) (by simp)) ((Blk.new w3 _ _).alloc _), (HB3.out.alloc hsz _).alloc (by simp; omega) _, fun k hk => ?_⟩⟩, fun h => absurd h (by decide)⟩
        simp only [Lies.own, Option.toList, List.mem_cons, List.mem_append, List.not_mem_nil, or_false, false_or] at hk
        rcases hk with rfl | rfl | rfl <;> omega

/-- A new account of the reference's. -/
theorem rstoreAt_new {w : World} {g gl b : Nat} {c : CfgP} (hB : Blk w g 77 (cellsR ⟨gl, none, some b, none, .slice (some ⟨b, 0, none⟩) 1 1, .slice none 0 0, []⟩ (newP c)).toArray) (hl : RLogAt w gl none ⟨c.maxLog, [], 0⟩)
    (hb : Blk w b 52 (encB ⟨1, inboxT, 0, 1, 1, 1⟩).toArray) : RStoreAt w g ⟨gl, none, some b, none, .slice (some ⟨b, 0, none⟩) 1 1, .slice none 0 0, []⟩ (newP c) := by
  refine ⟨hB, hl, ⟨rfl, .inr ⟨b, 0, 1, _, rfl, rfl, hb, Nat.le_refl _, by unfold maxLen; omega, by simp [encB], ?_⟩⟩, rfl, Sl.nil _ _ _, fun m hm => by simp at hm⟩
  simp [newP, flatG, encB]

theorem ref_new3 (w2 : World) (c : CfgP) (n : Nat) (hn : w2.heap.size = n) :
    RStoreAt (((w2.alloc (.cells (encB ⟨1, inboxT, 0, 1, 1, 1⟩).toArray 52)).alloc (.cells #[.int .i64 c.maxLog, .slice none 0 0, .int .i64 0] 120)).alloc (.cells (cellsR ⟨n + 1, none, some n, none, .slice (some ⟨n, 0, none⟩) 1 1, .slice none 0 0, []⟩ (newP c)).toArray 77)) (n + 1 + 1)
      ⟨n + 1, none, some n, none, .slice (some ⟨n, 0, none⟩) 1 1, .slice none 0 0, []⟩ (newP c) := by
  subst hn
  refine rstoreAt_new ?_ ⟨.slice none 0 0, ?_, Sl.nil _ _ _⟩ ?_
  · have h := Blk.new ((w2.alloc (.cells (encB ⟨1, inboxT, 0, 1, 1, 1⟩).toArray 52)).alloc (.cells #[.int .i64 c.maxLog, .slice none 0 0, .int .i64 0] 120)) 77 (cellsR ⟨w2.heap.size + 1, none, some w2.heap.size, none, .slice (some ⟨w2.heap.size, 0, none⟩) 1 1, .slice none 0 0, []⟩ (newP c)).toArray
    rw [World.size_alloc, World.size_alloc] at h
    exact h
  · have h := (Blk.new (w2.alloc (.cells (encB ⟨1, inboxT, 0, 1, 1, 1⟩).toArray 52)) 120 #[.int .i64 c.maxLog, .slice none 0 0, .int .i64 0]).alloc (.cells (cellsR ⟨w2.heap.size + 1, none, some w2.heap.size, none, .slice (some ⟨w2.heap.size, 0, none⟩) 1 1, .slice none 0 0, []⟩ (newP c)).toArray 77)
    rw [World.size_alloc] at h
    exact h
  · exact ((Blk.new w2 52 (encB ⟨1, inboxT, 0, 1, 1, 1⟩).toArray).alloc _).alloc _

set_option maxRecDepth 100000 in
set_option maxHeartbeats 4000000 in
theorem refNew_num (u p : Text) (hu : u.length ≤ 140737488351232) (hp : p.length ≤ 140737488351232) (m1 m2 m3 m4 m5 m6 m7 : Int) (k0 : Nat) (h7 : k0 ≤ 7) (hgood : ∀ j, j < k0 → lim (msF m1 m2 m3 m4 m5 m6 m7 j)) (hbad : k0 < 7 → ¬ lim (msF m1 m2 m3 m4 m5 m6 m7 k0)) (ok : Bool) (hok : ok = (decide (k0 = 7) && (atomL u && atomL p))) (w : World) :
    Calls Tryz.prog 21 #[.agg #[.string ⟨u.toArray⟩, .string ⟨p.toArray⟩, .int .i64 m1, .int .i64 m2, .int .i64 m3, .int .i64 m4, .int .i64 m5, .int .i64 m6, .int .i64 m7]] w (RNewOut w ⟨u, p, m1, m2, m3, m4, m5, m6, m7⟩ ok) := by
  have hU := fun W => refAtomT_any u hu W
  have hP := fun W => refAtomT_any p hp W
  obtain ⟨au, hau⟩ : ∃ au, atomL u = au := ⟨_, rfl⟩
  obtain ⟨ap, hap⟩ : ∃ ap, atomL p = ap := ⟨_, rfl⟩
  rw [hau] at hU hok
  rw [hap] at hP hok
  have hcells : ∀ k, k < 7 → ((w.alloc (.cells #[.string ⟨u.toArray⟩, .string ⟨p.toArray⟩, .int .i64 m1, .int .i64 m2, .int .i64 m3, .int .i64 m4, .int .i64 m5, .int .i64 m6, .int .i64 m7] 29)).alloc (.cells #[.int .i64 m1, .int .i64 m2, .int .i64 m3, .int .i64 m4, .int .i64 m5, .int .i64 m6, .int .i64 m7] 3)).cell? ⟨w.heap.size + 1, k, none⟩ = some (.int .i64 (msF m1 m2 m3 m4 m5 m6 m7 k)) := by
    intro k hk
    have hB := Blk.new (w.alloc (.cells #[.string ⟨u.toArray⟩, .string ⟨p.toArray⟩, .int .i64 m1, .int .i64 m2, .int .i64 m3, .int .i64 m4, .int .i64 m5, .int .i64 m6, .int .i64 m7] 29)) 3 #[.int .i64 m1, .int .i64 m2, .int .i64 m3, .int .i64 m4, .int .i64 m5, .int .i64 m6, .int .i64 m7]
    have hc := hB.cell k
    rw [show (w.alloc (.cells #[.string ⟨u.toArray⟩, .string ⟨p.toArray⟩, .int .i64 m1, .int .i64 m2, .int .i64 m3, .int .i64 m4, .int .i64 m5, .int .i64 m6, .int .i64 m7] 29)).heap.size = w.heap.size + 1 from by simp] at hc
    rw [hc]
    rcases k with _ | _ | _ | _ | _ | _ | _ | k
    · rfl
    · rfl
    · rfl
    · rfl
    · rfl
    · rfl
    · rfl
    · omega
  have HC := Lib.hid hcells
  have HG := Lib.hid hgood
  have HBAD := Lib.hid hbad
  have HOK := Lib.hid hok
  have HA := Lib.hid ((Blk.new w 29 #[.string ⟨u.toArray⟩, .string ⟨p.toArray⟩, .int .i64 m1, .int .i64 m2, .int .i64 m3, .int .i64 m4, .int .i64 m5, .int .i64 m6, .int .i64 m7]).alloc (.cells #[.int .i64 m1, .int .i64 m2, .int .i64 m3, .int .i64 m4, .int .i64 m5, .int .i64 m6, .int .i64 m7] 3))
  have HB0 := Lib.hid (below_then (below_alloc1 w (.cells #[.string ⟨u.toArray⟩, .string ⟨p.toArray⟩, .int .i64 m1, .int .i64 m2, .int .i64 m3, .int .i64 m4, .int .i64 m5, .int .i64 m6, .int .i64 m7] 29)) (below_alloc1 _ (.cells #[.int .i64 m1, .int .i64 m2, .int .i64 m3, .int .i64 m4, .int .i64 m5, .int .i64 m6, .int .i64 m7] 3)))
  clear hcells hgood hbad hu hp hok hau hap
  obtain ⟨mf, hmf⟩ : ∃ mf, msF m1 m2 m3 m4 m5 m6 m7 = mf := ⟨_, rfl⟩
  rw [hmf] at HC HG HBAD
  clear hmf
  go_enter Tryz.func21, Tryz.ntmps21
  go_wp2_with fail
  go_loop [5] (fun i => ∃ k : Nat, k ≤ k0 ∧ i = .int .i64 k) (fun i => k0 + 1 - (intOf i).toNat)
  case atStart => exact ⟨0, Nat.zero_le _, rfl⟩
  case round =>
    obtain ⟨k, hk, rfl⟩ := hrel
    by_cases hlt : k < k0
    · have hc := HC.out k (by omega)
      obtain ⟨hm1, hm2⟩ := HG.out k hlt
      obtain ⟨m, hm⟩ : ∃ m, mf k = m := ⟨_, rfl⟩
      rw [hm] at hc hm1 hm2
      have hk1 : (k : Int) < 7 := by omega
      have n1 : ¬ m < 1 := by omega
      have n2 : ¬ 2147483647 < m := by omega
      clear hm
      go_wp2_with fail
      refine ⟨?_, by simp [intOf]; omega⟩
      first | exact ⟨k + 1, by omega, by go_num⟩ | ((repeat apply Exists.intro); exact ⟨⟨k + 1, by omega, by go_num⟩, rfl⟩)
    · have hk0 : k = k0 := by omega
      subst hk0
      by_cases hk7 : k < 7
      · have hc := HC.out k hk7
        have hb := HBAD.out hk7
        obtain ⟨m, hm⟩ : ∃ m, mf k = m := ⟨_, rfl⟩
        rw [hm] at hc hb
        have hk1 : (k : Int) < 7 := by omega
        have HOF : Hid (ok = false) := Lib.hid (by rw [HOK.out, decide_eq_false (by omega)]; rfl)
        clear hm
        by_cases n1 : m < 1
        · go_wp2_with fail
          go_ret2
          exact ⟨fun h => absurd h (by rw [HOF.out]; decide), fun _ => ⟨rfl, HB0.out⟩⟩
        · have n2 : 2147483647 < m := by
            unfold lim at hb
            omega
          go_wp2_with fail
          go_ret2
          exact ⟨fun h => absurd h (by rw [HOF.out]; decide), fun _ => ⟨rfl, HB0.out⟩⟩
      · have hk7' : k = 7 := by omega
        subst hk7'
        have HOK2 : Hid (ok = (au && ap)) := Lib.hid (by rw [HOK.out]; simp)
        have hb0 := HA.out.cell 0
        have hb1 := HA.out.cell 1
        clear HC
        cases au with
        | false =>
          have HOF : Hid (ok = false) := Lib.hid (by rw [HOK2.out]; rfl)
          go_wp2_with (first
            | (go_at_call 61; (with_reducible refine (hU _).mono ?_); rintro e w1 ⟨rfl, rfl⟩; clear hU)
            | fail)
          go_ret2
          exact ⟨fun h => absurd h (by rw [HOF.out]; decide), fun _ => ⟨rfl, HB0.out⟩⟩
        | true =>
          cases ap with
          | false =>
            have HOF : Hid (ok = false) := Lib.hid (by rw [HOK2.out]; rfl)
            go_wp2_with (first
              | (go_at_call 61; (with_reducible refine (hU _).mono ?_); rintro e w1 ⟨rfl, rfl⟩; clear hU)
              | (go_at_call 61; (with_reducible refine (hP _).mono ?_); rintro e w1 ⟨rfl, rfl⟩; clear hP)
              | fail)
            go_ret2
            exact ⟨fun h => absurd h (by rw [HOF.out]; decide), fun _ => ⟨rfl, HB0.out⟩⟩
          | true =>
            have HOT : Hid (ok = true) := Lib.hid (by rw [HOK2.out]; rfl)
            go_wp2_with (first
              | (go_at_call 61; (with_reducible refine (hU _).mono ?_); rintro e w1 ⟨rfl, rfl⟩; clear hU)
              | (go_at_call 61; (with_reducible refine (hP _).mono ?_); rintro e w1 ⟨rfl, rfl⟩; clear hP)
              | fail)
            go_ret2
            have hsz := HB0.out.size
            simp only [World.size_alloc] at hsz
            refine ⟨fun _ => ⟨w.heap.size + 1 + 1 + 1 + 1, ⟨w.heap.size + 1 + 1 + 1, none, some (w.heap.size + 1 + 1), none, .slice (some ⟨w.heap.size + 1 + 1, 0, none⟩) 1 1, .slice none 0 0, []⟩, rfl, ⟨ref_new3 _ ⟨u, p, m1, m2, m3, m4, m5, m6, m7⟩ (w.heap.size + 1 + 1) (by simp), ((HB0.out.alloc (by simp; omega) _).alloc (by simp; omega) _).alloc (by simp; omega) _, fun k hk => ?_⟩⟩, fun h => absurd h (by rw [HOT.out]; decide)⟩
            simp only [Lies.own, Option.toList, List.mem_cons, List.mem_append, List.not_mem_nil, or_false, false_or] at hk
            rcases hk with rfl | rfl | rfl <;> omega

end Go.Proofs.YtmbibhphpjmboaaGreatDoor
