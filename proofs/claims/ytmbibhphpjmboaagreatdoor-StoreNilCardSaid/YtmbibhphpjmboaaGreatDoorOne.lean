/-
  The walk of field.one: the field that a text is.
-/
import Derived.Test.YtmbibhphpjmboaaGreatDoorFieldPlain
import Derived.Test.YtmbibhphpjmboaaGreatDoorTrim
import Derived.Test.YtmbibhphpjmboaaGreatDoorWanted
namespace Go.Proofs.YtmbibhphpjmboaaGreatDoor
open Go.Shelf Go.RowKit
attribute [local go_sem ↓] Go.wp_at_zero Go.wp_at_succ

theorem below_dropN {w w' : World} {n : Nat} (h : Below (w.drewN n).heap.size (w.drewN n) w') : Below w.heap.size w w' := ⟨h.os, h.tape, h.output, h.size, h.block⟩
def headB (b : UInt8) : Bool := decide (33 ≤ b.toNat) && decide (b.toNat ≤ 126)

set_option maxRecDepth 100000 in
set_option maxHeartbeats 1000000 in
theorem one_any (s : List UInt8) (w : World) (hs : s.length < 4294967281) (hcl : (Lib.cut s [58]).1.length ≤ s.length ∧ (Lib.cut s [58]).2.1.length ≤ s.length) :
    Calls Tryz.prog 165 #[.string ⟨s.toArray⟩] w fun e w' => e = .returned (.tuple #[.agg #[.string ⟨(oneF s).1.1.toArray⟩, .string ⟨(oneF s).1.2.toArray⟩], .bool (oneF s).2]) ∧ Below w.heap.size w w' := by
  have hC := fun W => cut_any s W hs
  unfold oneF
  generalize Lib.cut s [58] = c at hC hcl ⊢
  obtain ⟨nm, vl, ok⟩ := c
  simp only at hC hcl ⊢
  have hT := fun W => trim_any vl W (by omega)
  generalize Lib.trimS vl [32, 9] = tr at hT ⊢
  obtain ⟨S, rfl⟩ : ∃ S : ByteArray, nm = S.data.toList := ⟨⟨nm.toArray⟩, rfl⟩
  have hSS : (⟨S.data.toList.toArray⟩ : ByteArray) = S := rfl
  rw [hSS] at hC ⊢
  have hsz : S.size < 4294967281 := by
    have h1 := hcl.1
    have h2 : S.data.toList.length = S.size := by simp
    omega
  obtain ⟨ans, hans⟩ : ∃ ans, (ok && (S.data.toList.all (fun b => decide (33 ≤ b.toNat) && decide (b.toNat ≤ 126)) && !decide (S.data.toList = []))) = ans := ⟨_, rfl⟩
  rw [hans]
  have hans2 : ans = ((ok && S.data.toList.all headB) && !S.data.toList.isEmpty) := by
    rw [← hans, Bool.and_assoc]
    cases S.data.toList <;> rfl
  have HA := Lib.hid hans2
  clear hcl hs hSS hans hans2
  go_enter Tryz.func165, Tryz.ntmps165
  go_wp2_with (first
    | (go_at_call 204; refine (hC _).mono ?_; rintro e w1 ⟨rfl, nq, rfl⟩; clear hC)
    | fail)
  go_loop [6, 16] (fun o i => ∃ k : Nat, k ≤ S.size ∧ i = .int .i64 k ∧ o = .bool (ok && (S.data.toList.take k).all headB)) (fun _ i => S.size - (intOf i).toNat)
  case atStart => exact ⟨0, Nat.zero_le _, rfl, by simp⟩
  case round =>
    obtain ⟨k, hk, rfl, rfl⟩ := hrel
    by_cases hlt : k < S.size
    · have hk1 : (k : Int) < (S.size : Int) := by omega
      have hsn : (ok && (S.data.toList.take (k + 1)).all headB) = ((ok && (S.data.toList.take k).all headB) && headB S[k]) := by
        rw [take_snocB S k hlt]
        simp [Bool.and_assoc]
      have HSN := Lib.hid hsn
      clear hsn
      generalize (ok && (S.data.toList.take k).all headB) = p at HSN ⊢
      cases p with
      | false =>
        go_wp2_with fail
        refine ⟨?_, by simp [intOf]; omega⟩
        first | exact ⟨k + 1, by omega, by go_num, by rw [HSN.out]; rfl⟩ | ((repeat apply Exists.intro); exact ⟨⟨k + 1, by omega, by go_num, by rw [HSN.out]; rfl⟩, rfl⟩)
      | true =>
        by_cases h1 : (33 : Int) ≤ (S[k].toNat : Int)
        · by_cases h2 : (S[k].toNat : Int) ≤ 126
          · have hb : headB S[k] = true := by simp [headB]; omega
            rw [hb] at HSN
            go_wp2_with fail
            refine ⟨?_, by simp [intOf]; omega⟩
            first | exact ⟨k + 1, by omega, by go_num, by rw [HSN.out]; rfl⟩ | ((repeat apply Exists.intro); exact ⟨⟨k + 1, by omega, by go_num, by rw [HSN.out]; rfl⟩, rfl⟩)
          · have hb : headB S[k] = false := by simp [headB]; omega
            rw [hb] at HSN
            go_wp2_with fail
            refine ⟨?_, by simp [intOf]; omega⟩
            first | exact ⟨k + 1, by omega, by go_num, by rw [HSN.out]; rfl⟩ | ((repeat apply Exists.intro); exact ⟨⟨k + 1, by omega, by go_num, by rw [HSN.out]; rfl⟩, rfl⟩)
        · have hb : headB S[k] = false := by simp [headB]; omega
          rw [hb] at HSN
          go_wp2_with fail
          refine ⟨?_, by simp [intOf]; omega⟩
          first | exact ⟨k + 1, by omega, by go_num, by rw [HSN.out]; rfl⟩ | ((repeat apply Exists.intro); exact ⟨⟨k + 1, by omega, by go_num, by rw [HSN.out]; rfl⟩, rfl⟩)
    · have hkk : k = S.size := by omega
      subst hkk
      have htk : S.data.toList.take S.size = S.data.toList := List.take_of_length_le (by simp)
      rw [htk]
      obtain ⟨p, hp⟩ : ∃ p, (ok && S.data.toList.all headB) = p := ⟨_, rfl⟩
      rw [hp] at HA ⊢
      clear hp htk
      cases p with
      | false =>
        go_wp2_with (first
          | (go_at_call 205; refine (hT _).mono ?_; rintro e w2 ⟨rfl, hb2⟩; have hb3 := below_dropN hb2; have hk2 := (Blk.new w 213 #[.string ⟨#[]⟩, .string ⟨#[]⟩]).below hb3 (by simp); have r0 : w2.cell? ⟨w.heap.size, 0, none⟩ = some (.string ⟨#[]⟩) := hk2.cell 0; have r1 : w2.cell? ⟨w.heap.size, 1, none⟩ = some (.string ⟨#[]⟩) := hk2.cell 1; have f0 := hk2.frozen 0; have f1 := hk2.frozen 1; have HK := Lib.hid hk2; have HB2 := Lib.hid (below_then (below_alloc1 w _) hb3); clear hT hk2 hb2 hb3)
          | fail)
        refine bodyPost_ret (v := .tuple #[.agg #[.string S, .string ⟨tr.toArray⟩], .bool ans]) ?_ rfl ⟨rfl, (((Chg.of_below HB2.out []).set (.inr (Nat.le_refl _)) _).set (.inr (Nat.le_refl _)) _).below (Nat.le_refl _) (by simp)⟩
        have hz := (HK.out.set 0 (.string S)).set 1 (.string ⟨tr.toArray⟩)
        have z0 := hz.cell 0
        have z1 := hz.cell 1
        simp at z0 z1
        rw [HA.out]
        simp [results, Tryz.results165, go_sem, z0, z1]
      | true =>
        go_wp2_with (first
          | (go_at_call 205; refine (hT _).mono ?_; rintro e w2 ⟨rfl, hb2⟩; have hb3 := below_dropN hb2; have hk2 := (Blk.new w 213 #[.string ⟨#[]⟩, .string ⟨#[]⟩]).below hb3 (by simp); have r0 : w2.cell? ⟨w.heap.size, 0, none⟩ = some (.string ⟨#[]⟩) := hk2.cell 0; have r1 : w2.cell? ⟨w.heap.size, 1, none⟩ = some (.string ⟨#[]⟩) := hk2.cell 1; have f0 := hk2.frozen 0; have f1 := hk2.frozen 1; have HK := Lib.hid hk2; have HB2 := Lib.hid (below_then (below_alloc1 w _) hb3); clear hT hk2 hb2 hb3)
          | fail)
        refine bodyPost_ret (v := .tuple #[.agg #[.string S, .string ⟨tr.toArray⟩], .bool ans]) ?_ rfl ⟨rfl, (((Chg.of_below HB2.out []).set (.inr (Nat.le_refl _)) _).set (.inr (Nat.le_refl _)) _).below (Nat.le_refl _) (by simp)⟩
        have hz := (HK.out.set 0 (.string S)).set 1 (.string ⟨tr.toArray⟩)
        have z0 := hz.cell 0
        have z1 := hz.cell 1
        simp at z0 z1
        rw [HA.out]
        simp [results, Tryz.results165, go_sem, z0, z1, ByteArray.toList_eq]

end Go.Proofs.YtmbibhphpjmboaaGreatDoor
