/-
  The walks of slices.Clone at mailboxes and at members of emails.
-/
import Derived.Test.YtmbibhphpjmboaaGreatDoorStoreAt
namespace Go.Proofs.YtmbibhphpjmboaaGreatDoor
open Go.RowKit
attribute [local go_sem ↓] Go.wp_at_zero Go.wp_at_succ

theorem Try.infoBox : (Tryz.prog.info? 52).map (fun i => (i.zero, i.size, i.bytes)) = some (some (.agg #[.int .i64 0, .string ⟨#[]⟩, .int .i64 0, .int .i64 0, .int .i64 0, .int .i64 0]), 6, 56) := by kernel_rfl
theorem Try.infoMember : (Tryz.prog.info? 71).map (fun i => (i.zero, i.size, i.bytes)) = some (some (.agg #[.int .i64 0, .int .i64 0]), 2, 16) := by kernel_rfl

set_option maxRecDepth 100000 in
set_option maxHeartbeats 400000 in
theorem cloneB_any (w : World) (v : Value) (n : Nat) (xs : List Value) (hr : RdS w [] 6 v n xs) (h1 : ∀ u ∈ xs, u.oneCell' = true) (hn : n ≤ 1099511627776) :
    Calls Tryz.prog 67 #[v] w fun e w' => ∃ v' h', e = .returned v' ∧ Sl w' 52 6 v' h' n xs ∧ Below w.heap.size w w' ∧ ∀ b, h' = some b → w.heap.size ≤ b := by
  obtain ⟨i0, hi, hz0, hz1, hz2⟩ := info_parts Try.infoBox
  rcases hr with ⟨hlen, ⟨rfl, rfl⟩ | ⟨a, cap, rfl, hnc, hcm, hcell⟩⟩
  · have hx : xs = [] := List.eq_nil_of_length_eq_zero (by simpa using hlen)
    subst hx
    have heq := fun W => Lib.run_eql_slice_nil (P := Tryz.prog) W 48 52 none 0 0 0 0 Tryz.underlying48
    go_enter Tryz.func67, Tryz.ntmps67
    go_wp2
    go_ret
    exact ⟨_, none, rfl, Sl.nil _ _ _, Below.refl _ _, fun b hb => by cases hb⟩
  · have heq := fun W => Lib.run_eql_slice_nil (P := Tryz.prog) W 48 52 (some a) n cap 0 0 Tryz.underlying48
    have hcc := cells_of_rds a hlen hcell
    go_enter Tryz.func67, Tryz.ntmps67
    go_wp2_with (at_builtin; refine wpList_append_slA _ rfl _ _ 48 rfl Tryz.underlying48 hi hz0 hz1 hz2 rfl (by decide) (slOwn_empty w 52 6) rfl a n cap xs rfl hlen ?_ h1 ?_ ?_ ?_)
    · intro j u hu
      have hb := World.block_lt_of_cell? w _ (hcc j u hu)
      rw [World.cell?_alloc_lt w _ _ hb]
      exact hcc j u hu
    · unfold maxLen
      omega
    · omega
    · intro v2 h2 w2 hs2 hc2 ho2
      have hbel : Below w.heap.size w w2 := ⟨hc2.os, hc2.tape, hc2.output, Nat.le_trans (by simp) hc2.size, fun k hk => (hc2.block k (by simp; omega) (by simp; omega)).trans (Below.heap_alloc w _ k hk)⟩
      have hfr : ∀ b, h2 = some b → w.heap.size ≤ b := by
        intro b hb
        rcases ho2 with h3 | ⟨g, h3, h4⟩
        · rw [hb] at h3
          injection h3 with h3
          omega
        · rw [hb] at h3
          injection h3 with h3
          omega
      clear hc2 ho2
      go_wp2
      go_ret
      exact ⟨v2, h2, rfl, hs2, hbel, hfr⟩

set_option maxRecDepth 100000 in
set_option maxHeartbeats 400000 in
theorem cloneMem_any (w : World) (v : Value) (n : Nat) (xs : List Value) (hr : RdS w [] 2 v n xs) (h1 : ∀ u ∈ xs, u.oneCell' = true) (hn : n ≤ 1099511627776) :
    Calls Tryz.prog 87 #[v] w fun e w' => ∃ v' h', e = .returned v' ∧ Sl w' 71 2 v' h' n xs ∧ Below w.heap.size w w' ∧ ∀ b, h' = some b → w.heap.size ≤ b := by
  obtain ⟨i0, hi, hz0, hz1, hz2⟩ := info_parts Try.infoMember
  rcases hr with ⟨hlen, ⟨rfl, rfl⟩ | ⟨a, cap, rfl, hnc, hcm, hcell⟩⟩
  · have hx : xs = [] := List.eq_nil_of_length_eq_zero (by simpa using hlen)
    subst hx
    have heq := fun W => Lib.run_eql_slice_nil (P := Tryz.prog) W 38 71 none 0 0 0 0 Tryz.underlying38
    go_enter Tryz.func87, Tryz.ntmps87
    go_wp2
    go_ret
    exact ⟨_, none, rfl, Sl.nil _ _ _, Below.refl _ _, fun b hb => by cases hb⟩
  · have heq := fun W => Lib.run_eql_slice_nil (P := Tryz.prog) W 38 71 (some a) n cap 0 0 Tryz.underlying38
    have hcc := cells_of_rds a hlen hcell
    go_enter Tryz.func87, Tryz.ntmps87
    go_wp2_with (at_builtin; refine wpList_append_slA _ rfl _ _ 38 rfl Tryz.underlying38 hi hz0 hz1 hz2 rfl (by decide) (slOwn_empty w 71 2) rfl a n cap xs rfl hlen ?_ h1 ?_ ?_ ?_)
    · intro j u hu
      have hb := World.block_lt_of_cell? w _ (hcc j u hu)
      rw [World.cell?_alloc_lt w _ _ hb]
      exact hcc j u hu
    · unfold maxLen
      omega
    · omega
    · intro v2 h2 w2 hs2 hc2 ho2
      have hbel : Below w.heap.size w w2 := ⟨hc2.os, hc2.tape, hc2.output, Nat.le_trans (by simp) hc2.size, fun k hk => (hc2.block k (by simp; omega) (by simp; omega)).trans (Below.heap_alloc w _ k hk)⟩
      have hfr : ∀ b, h2 = some b → w.heap.size ≤ b := by
        intro b hb
        rcases ho2 with h3 | ⟨g, h3, h4⟩
        · rw [hb] at h3
          injection h3 with h3
          omega
        · rw [hb] at h3
          injection h3 with h3
          omega
      clear hc2 ho2
      go_wp2
      go_ret
      exact ⟨v2, h2, rfl, hs2, hbel, hfr⟩

end Go.Proofs.YtmbibhphpjmboaaGreatDoor
