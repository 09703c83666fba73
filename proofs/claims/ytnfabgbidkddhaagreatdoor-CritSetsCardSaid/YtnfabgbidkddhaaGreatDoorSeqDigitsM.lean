/-
  The walks of the reference's Digits and of text.Digits: the digits of a number; nothing that was there turns.
-/
import Derived.Test.YtnfabgbidkddhaaGreatDoorSeqPartM
import Derived.Test.YtnfabgbidkddhaaGreatDoorBytesM
import Derived.Lib.ItoaLen
import Derived.Deep.RegionWith
import Derived.Deep.DrawnRows
namespace Go.Proofs.YtnfabgbidkddhaaGreatDoor
open Go.RowKit Go.Lib
attribute [local go_sem ↓] Go.wp_at_zero Go.wp_at_succ

/-- The digits of a number; of one below nought those of nought. -/
def digN (n : Int) : List UInt8 := decDigits n.toNat

theorem dig_conv (c : Nat) (hc : c < 10) (w : World) (g : Nat) (hB : Blk w g 5 #[.int .u8 (48 + (c : Int))]) :
    Sem.run Tryz.prog (convert 46 9 (.slice (some ⟨g, 0, none⟩) 1 1)) w = .ok (.string ⟨[UInt8.ofNat (48 + c)].toArray⟩) w := by
  refine run_string_row Tryz.underlying46 Tryz.underlying5 (l := [UInt8.ofNat (48 + c)]) (fun j hj => ?_) 1 rfl 9 Tryz.underlying9
  refine ⟨?_, hB.frozen j⟩
  rw [hB.cell j]
  match j, hj with
  | 0, _ => simp; omega

theorem decDigits_more (k : Nat) (h : 10 ≤ k) : decDigits k = decDigits (k / 10) ++ [UInt8.ofNat (48 + k % 10)] := by
  rw [decDigits, dif_neg (by omega)]
theorem digN_le (n : Int) (h : n ≤ 9223372036854775807) : (digN n).length ≤ 21 := by
  by_cases h0 : 0 ≤ n
  · have := itoa_length_le n (by omega) h
    obtain ⟨k, rfl⟩ : ∃ k : Nat, n = k := ⟨n.toNat, by omega⟩
    rw [itoa_nonneg] at this
    exact this
  · have e : n.toNat = 0 := by omega
    unfold digN
    rw [e, decDigits_one (by omega)]
    simp

set_option maxRecDepth 100000 in
set_option maxHeartbeats 1000000 in
theorem refDigits_small (n : Int) (h : n < 10) (w : World) :
    Calls Tryz.prog 25 #[.int .i64 n] w fun e w' => e = .returned (.string ⟨(digN n).toArray⟩) ∧ Below w.heap.size w w' := by
  obtain ⟨c, hc⟩ : ∃ c : Nat, (if n < 0 then 0 else n) = (c : Int) := ⟨n.toNat, by omega⟩
  have hc2 : n.toNat = c ∧ c < 10 := by omega
  have hd : digN n = [UInt8.ofNat (48 + c)] := by
    unfold digN
    rw [hc2.1, decDigits_one hc2.2]
  rw [hd]
  have hmx := fun ats ty W => run_max_int (P := Tryz.prog) ats ty n 0 W
  rw [hc] at hmx
  have hcv := dig_conv c hc2.2 _ _ (Blk.new w 5 #[.int .u8 (48 + (c : Int))])
  have hc9 : (c : Int) ≤ 9 := by omega
  generalize UInt8.ofNat (48 + c) = x at hcv
  clear hd hc hc2
  go_enter Tryz.func25, Tryz.ntmps25
  go_wp2
  go_ret
  exact ⟨rfl, (Below.refl _ _).alloc (Nat.le_refl _) _⟩

set_option maxRecDepth 100000 in
set_option maxHeartbeats 2000000 in
theorem refDigits_nat (k : Nat) : k ≤ 9223372036854775807 → ∀ w : World,
    Calls Tryz.prog 25 #[.int .i64 k] w fun e w' => e = .returned (.string ⟨(decDigits k).toArray⟩) ∧ Below w.heap.size w w' := by
  induction k using Nat.strongRecOn with
  | _ k ih =>
    intro hk w
    by_cases hs : k < 10
    · exact refDigits_small k (by omega) w
    · have hih := ih (k / 10) (by omega) (by omega)
      have hlen : (decDigits (k / 10)).length ≤ 21 := digN_le ((k / 10 : Nat) : Int) (by omega)
      rw [decDigits_more k (by omega)]
      generalize decDigits (k / 10) = D at hih hlen
      have hq : ((k / 10 : Nat) : Int) = (k : Int) / 10 := by omega
      have hr : ((k % 10 : Nat) : Int) = (k : Int) % 10 := by omega
      rw [hq] at hih
      have hcv1 := fun W g hB => dig_conv (k % 10) (by omega) W g hB
      rw [hr] at hcv1
      generalize UInt8.ofNat (48 + k % 10) = c at hcv1
      have HCV := Lib.hid hcv1
      have hnl : ¬ 9223372036854775807 < D.length + [c].length := by simp; omega
      have hge : (10 : Int) ≤ (k : Int) := by omega
      have hk2 : (k : Int) ≤ 9223372036854775807 := by omega
      have m1 : IntKind.i64.wrap ((k : Int) / 10) = (k : Int) / 10 := IntWalk.i64_in _ (by omega)
      have m2 : (k : Int).tmod 10 = (k : Int) % 10 := Int.tmod_eq_emod_of_nonneg (by omega)
      have m3 : IntKind.i64.wrap (48 + (k : Int) % 10) = 48 + (k : Int) % 10 := IntWalk.i64_in _ (by omega)
      have m4 : IntKind.u8.wrap (48 + (k : Int) % 10) = 48 + (k : Int) % 10 := IntWalk.u8_in _ (by omega)
      clear ih hq hr hcv1 hs
      go_enter Tryz.func25, Tryz.ntmps25
      go_wp2_with fail
      have h2 : ∀ w2, Below w.drew.heap.size w.drew w2 → Below w.heap.size w w2 := fun w2 h => ⟨h.os, h.tape, h.output, h.size, h.block⟩
      have h3 : ∀ w2, Below (w.alloc (.cells #[.int .u8 (48 + (k : Int) % 10)] 5)).drew.heap.size (w.alloc (.cells #[.int .u8 (48 + (k : Int) % 10)] 5)).drew w2 → Below (w.heap.size + 1) (w.alloc (.cells #[.int .u8 (48 + (k : Int) % 10)] 5)) w2 := fun w2 h => ⟨h.os, h.tape, h.output, h.size, fun i hi => h.block i (by simpa using hi)⟩
      have hcv0 := HCV.out (w.alloc (.cells #[.int .u8 (48 + (k : Int) % 10)] 5)).drew w.heap.size ((Blk.new w 5 #[.int .u8 (48 + (k : Int) % 10)]).heap (by rfl))
      go_region_with (first
        | (go_at_call 25; (with_reducible refine (hih w.drew).mono ?_); rintro e w2 ⟨rfl, hb⟩; have hcv := HCV.out _ _ (Blk.new w2 5 #[.int .u8 (48 + (k : Int) % 10)]); have HB := Lib.hid (h2 w2 hb); clear hb)
        | (go_at_call 25; (with_reducible refine (hih (w.alloc (.cells #[.int .u8 (48 + (k : Int) % 10)] 5)).drew).mono ?_); rintro e w2 ⟨rfl, hb⟩; have hcv := HCV.out w2 w.heap.size ((Blk.new w 5 #[.int .u8 (48 + (k : Int) % 10)]).below (h3 w2 hb) (by simp)); have HB := Lib.hid (((Below.refl w.heap.size w).alloc (Nat.le_refl _) (.cells #[.int .u8 (48 + (k : Int) % 10)] 5)).trans ((h3 w2 hb).mono (by simp))); clear hb)
        | fail)
      all_goals
        go_wp2
        go_ret
        have he : (ByteArray.mk D.toArray) ++ (ByteArray.mk #[c]) = ByteArray.mk (D ++ [c]).toArray := ByteArray.mk_append_mk D [c]
        exact ⟨ret_str he, by first | exact HB.out | exact HB.out.alloc HB.out.size _⟩

theorem refDigits_any (n : Int) (h : n ≤ 9223372036854775807) (w : World) :
    Calls Tryz.prog 25 #[.int .i64 n] w fun e w' => e = .returned (.string ⟨(digN n).toArray⟩) ∧ Below w.heap.size w w' := by
  by_cases hs : n < 10
  · exact refDigits_small n hs w
  · obtain ⟨k, rfl⟩ : ∃ k : Nat, n = k := ⟨n.toNat, by omega⟩
    exact refDigits_nat k (by omega) w

theorem below_grow (w : World) (q : Nat) (os : Array Obj) : Below w.heap.size w (Sort.grow (w.drewN q) os) := by
  refine ⟨rfl, rfl, rfl, by simp [Sort.grow], fun k hk => ?_⟩
  exact Sort.heap_grow_old _ _ (by simpa using hk)

end Go.Proofs.YtnfabgbidkddhaaGreatDoor
