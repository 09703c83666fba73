/-
  The walks of slices.Clone at entries, Log.All, Log.Copy.
-/
import Derived.Test.YtmbibhphpjmboaaGreatDoorLogAdd
namespace Go.Proofs.YtmbibhphpjmboaaGreatDoor
open Go.RowKit

theorem cells_of_rds {w : World} {size n : Nat} {xs : List Value} (a : Addr) (hlen : xs.length = n * size) (h : 0 < n → a.spot = none ∧ a.block < w.heap.size ∧ a.block ∉ ([] : List Nat) ∧ ∀ j, j < n * size → w.cell? ⟨a.block, a.off + j, none⟩ = xs[j]?) :
    ∀ j u, xs[j]? = some u → w.cell? (a.add j) = some u := by
  intro j u hu
  have hj : j < n * size := by
    have := (List.getElem?_eq_some_iff.1 hu).1
    omega
  have hn : 0 < n := by
    rcases Nat.eq_zero_or_pos n with h0 | h0
    · subst h0
      omega
    · exact h0
  obtain ⟨r1, _, _, r4⟩ := h hn
  obtain ⟨b, off, sp⟩ := a
  simp only at r1 r4
  subst r1
  rw [Addr.add_lit, r4 j hj, hu]

theorem slOwn_empty (w : World) (e : TypeId) (size : Nat) : Sl (w.alloc (.cells #[] e)) e size (.slice (some ⟨w.heap.size, 0, none⟩) 0 0) (some w.heap.size) 0 [] :=
  ⟨by simp, .inr ⟨w.heap.size, 0, 0, #[], rfl, rfl, Blk.new _ _ _, Nat.le_refl _, Nat.zero_le _, by simp, by simp⟩⟩
theorem flatE_one (l : List E4) : ∀ u ∈ flatE l, u.oneCell' = true := by
  intro u hu
  obtain ⟨e, _, he⟩ := List.mem_flatMap.1 hu
  exact encE_one e u he

set_option maxRecDepth 100000 in
set_option maxHeartbeats 400000 in
theorem cloneE_any (w : World) (v : Value) (n : Nat) (xs : List Value) (hr : RdS w [] 4 v n xs) (h1 : ∀ u ∈ xs, u.oneCell' = true) (hn : n ≤ 2199023255552) :
    Calls Tryz.prog 105 #[v] w fun e w' => ∃ v' h', e = .returned v' ∧ Sl w' 117 4 v' h' n xs ∧ Below w.heap.size w w' ∧ ∀ b, h' = some b → w.heap.size ≤ b := by
  obtain ⟨i0, hi, hz0, hz1, hz2⟩ := info_parts Try.infoEntry
  rcases hr with ⟨hlen, ⟨rfl, rfl⟩ | ⟨a, cap, rfl, hnc, hcm, hcell⟩⟩
  · have hx : xs = [] := List.eq_nil_of_length_eq_zero (by simpa using hlen)
    subst hx
    have heq := fun W => Lib.run_eql_slice_nil (P := Tryz.prog) W 93 117 none 0 0 0 0 Tryz.underlying93
    go_enter Tryz.func105, Tryz.ntmps105
    go_wp2
    go_ret
    exact ⟨_, none, rfl, Sl.nil _ _ _, Below.refl _ _, fun b hb => by cases hb⟩
  · have heq := fun W => Lib.run_eql_slice_nil (P := Tryz.prog) W 93 117 (some a) n cap 0 0 Tryz.underlying93
    have hcc := cells_of_rds a hlen hcell
    go_enter Tryz.func105, Tryz.ntmps105
    go_wp2_with (at_builtin; refine wpList_append_slA _ rfl _ _ 93 rfl Tryz.underlying93 hi hz0 hz1 hz2 rfl (by decide) (slOwn_empty w 117 4) rfl a n cap xs rfl hlen ?_ h1 ?_ ?_ ?_)
    · intro j u hu
      have hb := World.block_lt_of_cell? w _ (hcc j u hu)
      rw [World.cell?_alloc_lt w _ _ hb]
      exact hcc j u hu
    · unfold maxLen
      omega
    · omega
    · intro v2 h2 w2 hs2 hc2 ho2
      have hbel : Below w.heap.size w w2 := ⟨hc2.os, hc2.tape, hc2.output, Nat.le_trans (by simp) hc2.size, fun k hk => (hc2.block k (by simp; omega) (by simp; omega)).trans (Below.heap_alloc w _ k hk)⟩
      have hfr : ∀ b, h2 = some b → w.heap.size ≤ b := by
        intro b hb
        rcases ho2 with h3 | ⟨g, h3, h4⟩
        · rw [hb] at h3
          injection h3 with h3
          omega
        · rw [hb] at h3
          injection h3 with h3
          omega
      clear hc2 ho2
      go_wp2
      go_ret
      exact ⟨v2, h2, rfl, hs2, hbel, hfr⟩

theorem all_any (w : World) (g : Nat) (h : Option Nat) (x : LogV) (hl : LogAt w g h x) (hn : x.es.length ≤ 2199023255552) :
    Calls Tryz.prog 45 #[.pointer (some ⟨g, 0, none⟩)] w fun e w' => ∃ v' h', e = .returned v' ∧ Sl w' 117 4 v' h' x.es.length (flatE x.es) ∧ Below w.heap.size w w' ∧ ∀ b, h' = some b → w.heap.size ≤ b := by
  obtain ⟨v, hB, hs⟩ := hl
  have c1 : w.cell? ⟨g, 1, none⟩ = some v := hB.cell 1
  have hcl := cloneE_any w v x.es.length (flatE x.es) (hs.reads [] (by simp)) (flatE_one x.es) hn
  obtain ⟨A, cap, rfl, _, _⟩ := hs.form
  clear hB hs
  go_enter Tryz.func45, Tryz.ntmps45
  go_wp2_with (go_at_call 105; refine hcl.mono ?_; rintro e w' ⟨v2, h2, rfl, hs2, hb, hf⟩)
  go_ret
  exact ⟨v2, h2, rfl, hs2, hb, hf⟩

set_option maxRecDepth 100000 in
set_option maxHeartbeats 400000 in
theorem copy_any (w : World) (g : Nat) (h : Option Nat) (x : LogV) (hl : LogAt w g h x) (hn : x.es.length ≤ 2199023255552) :
    Calls Tryz.prog 47 #[.pointer (some ⟨g, 0, none⟩)] w fun e w' => ∃ g2 h2, e = .returned (.pointer (some ⟨g2, 0, none⟩)) ∧ LogAt w' g2 h2 x ∧ Below w.heap.size w w' ∧ w.heap.size ≤ g2 ∧ ∀ b, h2 = some b → w.heap.size ≤ b := by
  obtain ⟨v, hB, hs⟩ := hl
  obtain ⟨A, cap, rfl, _, _⟩ := hs.form
  have c0 : w.cell? ⟨g, 0, none⟩ = some (.int .i64 x.most) := hB.cell 0
  have c1 : w.cell? ⟨g, 1, none⟩ = some (.slice A x.es.length cap) := hB.cell 1
  have c2 : w.cell? ⟨g, 2, none⟩ = some (.int .i64 x.floor) := hB.cell 2
  have hgl := hB.lt
  have hcl := cloneE_any (w.alloc (.cells #[.int .i64 x.most, .slice A x.es.length cap, .int .i64 x.floor] 156)) (.slice A x.es.length cap) x.es.length (flatE x.es) ((hs.alloc _).reads [] (by simp)) (flatE_one x.es) hn
  clear hB hs
  go_enter Tryz.func47, Tryz.ntmps47
  go_wp2_with (go_at_call 105; refine hcl.mono ?_; rintro e w2 ⟨v2, h2, rfl, hs2, hb, hf⟩; obtain ⟨A2, cap2, rfl, _, _⟩ := hs2.form; have hB2 : Blk w2 w.heap.size 156 #[.int .i64 x.most, .slice A x.es.length cap, .int .i64 x.floor] := (Blk.new w _ _).below hb (by simp); have q1 : w2.cell? ⟨w.heap.size, 1, none⟩ = some (.slice A x.es.length cap) := hB2.cell 1; have q2 : w2.frozen? ⟨w.heap.size, 1, none⟩ = false := hB2.frozen 1; have HB2 := Lib.hid hB2; clear hB2; have HS2 := Lib.hid hs2; clear hs2)
  go_ret
  have hne : h2 ≠ some w.heap.size := fun hh => by
    have := hf _ hh
    simp at this
    omega
  refine ⟨w.heap.size, h2, rfl, ⟨_, HB2.out.set 1 _, HS2.out.far (p := ⟨w.heap.size, 1, none⟩) hne _⟩, ?_, Nat.le_refl _, fun b hb2 => by have := hf b hb2; simp at this; omega⟩
  exact (((Below.refl _ _).alloc (Nat.le_refl _) _).trans (hb.mono (by simp))).setCell (Nat.le_refl _) _

end Go.Proofs.YtmbibhphpjmboaaGreatDoor
