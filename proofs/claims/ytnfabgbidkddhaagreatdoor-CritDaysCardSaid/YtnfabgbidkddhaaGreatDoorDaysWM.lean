/-
  The walk of pillarboxlaw23.CritDays.
-/
import Derived.Test.YtnfabgbidkddhaaGreatDoorDaysPM
namespace Go.Proofs.YtnfabgbidkddhaaGreatDoor
open Go.RowKit
attribute [local go_sem ↓] Go.wp_at_zero Go.wp_at_succ

theorem convD (d : Nat) (hd : d < 29) (W : World) (X : Nat) (hX : W.heap.size = X) : Sem.run Tryz.prog (convert 46 9 (.slice (some ⟨X, 0, none⟩) 2 2)) (W.alloc (.cells #[.int .u8 (48 + (d : Int) / 10), .int .u8 (48 + (d : Int) % 10)] 5)) = .ok (.string ⟨#[UInt8.ofNat (48 + d / 10), UInt8.ofNat (48 + d % 10)]⟩) (W.alloc (.cells #[.int .u8 (48 + (d : Int) / 10), .int .u8 (48 + (d : Int) % 10)] 5)) := by
  subst hX
  refine run_convert_bytes_back (W.alloc (.cells #[.int .u8 (48 + (d : Int) / 10), .int .u8 (48 + (d : Int) % 10)] 5)) 46 9 5 ⟨W.heap.size, 0, none⟩ 2 [UInt8.ofNat (48 + d / 10), UInt8.ofNat (48 + d % 10)] Tryz.underlying46 Tryz.underlying5 Tryz.underlying9 fun j hj => ?_
  have hB := Blk.new W 5 #[.int .u8 (48 + (d : Int) / 10), .int .u8 (48 + (d : Int) % 10)]
  rw [Addr.add_zero_off]
  match j, hj with
  | 0, _ => exact (hB.cell 0).trans (by simp; omega)
  | 1, _ => exact (hB.cell 1).trans (by simp; omega)
theorem dayT_cat (d : Nat) : (⟨#[UInt8.ofNat (48 + d / 10), UInt8.ofNat (48 + d % 10)]⟩ : ByteArray) ++ ⟨#[45, 74, 97, 110, 45, 49, 57, 55, 48]⟩ = dayT d := by
  apply ByteArray.ext
  rw [ByteArray.data_append]
  rfl

set_option maxRecDepth 100000 in
set_option maxHeartbeats 8000000 in
theorem critDays_any (a n : Nat) (ha : a < 4294967296) (hn : n < 65536) (w : World) (hm : Mx w) :
    Calls Tryz.prog 7 #[.int .u32 (a : Int), .int .u16 (n : Int)] w fun e w' => e = .returned (.bool true) ∧ Below w.heap.size w w' := by
  have hw := fun s W => word_anyL s W
  have hNu := fun n W => numC_any n W
  have hAw := fun W hm => awake_anyL W hm
  obtain ⟨d, hd⟩ : ∃ d, 1 + n % 28 = d := ⟨_, rfl⟩
  have hd1 : 1 ≤ d := by omega
  have hd2 : d < 29 := by omega
  have hdn : 1 + (n : Int) % 28 = (d : Int) := by omega
  obtain ⟨k, hk⟩ : ∃ k, a % 3456000 = k := ⟨_, rfl⟩
  have hk2 : k < 3456000 := by omega
  have hkn : (a : Int) % 3456000 = (k : Int) := by omega
  clear hd hk
  have hct := dayT_cat d
  have hcv1 := convD d hd2 (w.alloc (.cells #[.int .i64 1, .int .i64 0, .string ⟨#[]⟩, .int .i64 (86400 * ((d : Int) - 1) + (k : Int) - 86400), .slice none 0 0, .slice none 0 0, .int .i64 0, .int .i64 0] 39)) (w.heap.size + 1) (by simp)
  have hTs := dayT_size d
  have hR1 := on_read d hd2 hd1
  have hR2 := since_read d hd2 hd1
  have hR3 := before_read d hd2 hd1
  obtain ⟨hg1, hg2, hg3⟩ := days_good d hd2 hd1
  obtain ⟨hk1, hk2', hk3⟩ := days_kids d hd2
  have hP1 : HoldsP (emS (86400 * ((d : Int) - 1) + (k : Int) - 86400) []) (onF d) = (decide (86400 * ((d : Int) - 1) ≤ 86400 * ((d : Int) - 1) + (k : Int) - 86400) && decide (86400 * ((d : Int) - 1) + (k : Int) - 86400 < 86400 * (d : Int))) := holds_on _ d
  have hP2 : HoldsP (emS (86400 * ((d : Int) - 1) + (k : Int) - 86400) []) (sinceF d) = decide (86400 * ((d : Int) - 1) ≤ 86400 * ((d : Int) - 1) + (k : Int) - 86400) := holds_since _ d
  have hP3 : HoldsP (emS (86400 * ((d : Int) - 1) + (k : Int) - 86400) []) (beforeF d) = decide (86400 * ((d : Int) - 1) + (k : Int) - 86400 < 86400 * ((d : Int) - 1)) := holds_before _ d
  have HM0 := Lib.hid (hm.below (below_alloc1 w (.cells #[.int .i64 1, .int .i64 0, .string ⟨#[]⟩, .int .i64 (86400 * ((d : Int) - 1) + (k : Int) - 86400), .slice none 0 0, .slice none 0 0, .int .i64 0, .int .i64 0] 39)))
  obtain ⟨T, hT⟩ : ∃ T, dayT d = T := ⟨_, rfl⟩
  rw [hT] at hct hTs hR1 hR2 hR3
  obtain ⟨t2, ht2⟩ : ∃ t2, (⟨#[UInt8.ofNat (48 + d / 10), UInt8.ofNat (48 + d % 10)]⟩ : ByteArray) = t2 := ⟨_, rfl⟩
  have ht2s : t2.size = 2 := by rw [← ht2]; rfl
  rw [ht2] at hct hcv1
  clear hT ht2
  have hRd1 : Hid (∀ W, Below (w.alloc (.cells #[.int .i64 1, .int .i64 0, .string ⟨#[]⟩, .int .i64 (86400 * ((d : Int) - 1) + (k : Int) - 86400), .slice none 0 0, .slice none 0 0, .int .i64 0, .int .i64 0] 39)).heap.size (w.alloc (.cells #[.int .i64 1, .int .i64 0, .string ⟨#[]⟩, .int .i64 (86400 * ((d : Int) - 1) + (k : Int) - 86400), .slice none 0 0, .slice none 0 0, .int .i64 0, .int .i64 0] 39)) W → Calls Tryz.prog 11 #[.slice (some ⟨W.heap.size, 0, none⟩) 2 2, .int .i64 1, .slice none 0 0] (W.alloc (.cells #[.int .i64 1, .string ⟨#[79, 78]⟩, .slice none 0 0, .int .i64 1, .string T, .slice none 0 0] 41)) (fun e w' => ∃ A c, e = .returned (.tuple #[.slice A 4 c, .bool false, .int .i64 0]) ∧ FAt w' (.slice A 4 c) (onF d) ∧ Below W.heap.size W w')) := Lib.hid fun W hb => by
    have hMW := HM0.out.below hb
    have hwl := WsAt.lit W 41 [(1, onW), (1, T)] 2 rfl (by decide)
    have h := critRead_any (W.alloc (.cells #[.int .i64 1, .string ⟨#[79, 78]⟩, .slice none 0 0, .int .i64 1, .string T, .slice none 0 0] 41)) _ (.slice none 0 0) ⟨1, []⟩ (flatW [(1, onW), (1, T)]) hwl (okL_two (by decide) (by rw [hTs]; decide)) (EAt.none (hMW.below ((Below.refl _ _).alloc (Nat.le_refl _) _)) 1) (by rw [szL_flat]; simp)
    rw [hR1] at h
    refine h.mono ?_
    rintro e w' ⟨ov, hb2, xs, F, rfl, hs, hx, hbb⟩
    obtain ⟨A, c, rfl, _, _⟩ := hs.form
    exact ⟨A, c, rfl, ⟨hb2, xs, F, hs, hx⟩, below_then (below_alloc1 W _) hbb⟩
  have hRd2 : Hid (∀ W, Below (w.alloc (.cells #[.int .i64 1, .int .i64 0, .string ⟨#[]⟩, .int .i64 (86400 * ((d : Int) - 1) + (k : Int) - 86400), .slice none 0 0, .slice none 0 0, .int .i64 0, .int .i64 0] 39)).heap.size (w.alloc (.cells #[.int .i64 1, .int .i64 0, .string ⟨#[]⟩, .int .i64 (86400 * ((d : Int) - 1) + (k : Int) - 86400), .slice none 0 0, .slice none 0 0, .int .i64 0, .int .i64 0] 39)) W → Calls Tryz.prog 11 #[.slice (some ⟨W.heap.size, 0, none⟩) 2 2, .int .i64 1, .slice none 0 0] (W.alloc (.cells #[.int .i64 1, .string ⟨#[83, 73, 78, 67, 69]⟩, .slice none 0 0, .int .i64 1, .string T, .slice none 0 0] 41)) (fun e w' => ∃ A c, e = .returned (.tuple #[.slice A 2 c, .bool false, .int .i64 0]) ∧ FAt w' (.slice A 2 c) (sinceF d) ∧ Below W.heap.size W w')) := Lib.hid fun W hb => by
    have hMW := HM0.out.below hb
    have hwl := WsAt.lit W 41 [(1, sinceW), (1, T)] 2 rfl (by decide)
    have h := critRead_any (W.alloc (.cells #[.int .i64 1, .string ⟨#[83, 73, 78, 67, 69]⟩, .slice none 0 0, .int .i64 1, .string T, .slice none 0 0] 41)) _ (.slice none 0 0) ⟨1, []⟩ (flatW [(1, sinceW), (1, T)]) hwl (okL_two (by decide) (by rw [hTs]; decide)) (EAt.none (hMW.below ((Below.refl _ _).alloc (Nat.le_refl _) _)) 1) (by rw [szL_flat]; simp)
    rw [hR2] at h
    refine h.mono ?_
    rintro e w' ⟨ov, hb2, xs, F, rfl, hs, hx, hbb⟩
    obtain ⟨A, c, rfl, _, _⟩ := hs.form
    exact ⟨A, c, rfl, ⟨hb2, xs, F, hs, hx⟩, below_then (below_alloc1 W _) hbb⟩
  have hRd3 : Hid (∀ W, Below (w.alloc (.cells #[.int .i64 1, .int .i64 0, .string ⟨#[]⟩, .int .i64 (86400 * ((d : Int) - 1) + (k : Int) - 86400), .slice none 0 0, .slice none 0 0, .int .i64 0, .int .i64 0] 39)).heap.size (w.alloc (.cells #[.int .i64 1, .int .i64 0, .string ⟨#[]⟩, .int .i64 (86400 * ((d : Int) - 1) + (k : Int) - 86400), .slice none 0 0, .slice none 0 0, .int .i64 0, .int .i64 0] 39)) W → Calls Tryz.prog 11 #[.slice (some ⟨W.heap.size, 0, none⟩) 2 2, .int .i64 1, .slice none 0 0] (W.alloc (.cells #[.int .i64 1, .string ⟨#[66, 69, 70, 79, 82, 69]⟩, .slice none 0 0, .int .i64 2, .string T, .slice none 0 0] 41)) (fun e w' => ∃ A c, e = .returned (.tuple #[.slice A 2 c, .bool false, .int .i64 0]) ∧ FAt w' (.slice A 2 c) (beforeF d) ∧ Below W.heap.size W w')) := Lib.hid fun W hb => by
    have hMW := HM0.out.below hb
    have hwl := WsAt.lit W 41 [(1, beforeW), (2, T)] 2 rfl (by decide)
    have h := critRead_any (W.alloc (.cells #[.int .i64 1, .string ⟨#[66, 69, 70, 79, 82, 69]⟩, .slice none 0 0, .int .i64 2, .string T, .slice none 0 0] 41)) _ (.slice none 0 0) ⟨1, []⟩ (flatW [(1, beforeW), (2, T)]) hwl (okL_two (by decide) (by rw [hTs]; decide)) (EAt.none (hMW.below ((Below.refl _ _).alloc (Nat.le_refl _) _)) 1) (by rw [szL_flat]; simp)
    rw [hR3] at h
    refine h.mono ?_
    rintro e w' ⟨ov, hb2, xs, F, rfl, hs, hx, hbb⟩
    obtain ⟨A, c, rfl, _, _⟩ := hs.form
    exact ⟨A, c, rfl, ⟨hb2, xs, F, hs, hx⟩, below_then (below_alloc1 W _) hbb⟩
  have hHo1 : Hid (∀ (v : Value) (W : World), FAt W v (onF d) → Calls Tryz.prog 16 #[v, .agg #[.int .i64 1, .int .i64 0, .string ⟨#[]⟩, .int .i64 (86400 * ((d : Int) - 1) + (k : Int) - 86400), .slice none 0 0, .slice none 0 0, .int .i64 0, .int .i64 0]] W fun en w' => en = .returned (.bool (HoldsP (emS (86400 * ((d : Int) - 1) + (k : Int) - 86400) []) (onF d))) ∧ Below W.heap.size W w') := Lib.hid fun v W hf => holds_emS W _ _ v hf hg1 hk1 (by simp [onF])
  have hHo2 : Hid (∀ (v : Value) (W : World), FAt W v (sinceF d) → Calls Tryz.prog 16 #[v, .agg #[.int .i64 1, .int .i64 0, .string ⟨#[]⟩, .int .i64 (86400 * ((d : Int) - 1) + (k : Int) - 86400), .slice none 0 0, .slice none 0 0, .int .i64 0, .int .i64 0]] W fun en w' => en = .returned (.bool (HoldsP (emS (86400 * ((d : Int) - 1) + (k : Int) - 86400) []) (sinceF d))) ∧ Below W.heap.size W w') := Lib.hid fun v W hf => holds_emS W _ _ v hf hg2 hk2' (by simp [sinceF])
  have hHo3 : Hid (∀ (v : Value) (W : World), FAt W v (beforeF d) → Calls Tryz.prog 16 #[v, .agg #[.int .i64 1, .int .i64 0, .string ⟨#[]⟩, .int .i64 (86400 * ((d : Int) - 1) + (k : Int) - 86400), .slice none 0 0, .slice none 0 0, .int .i64 0, .int .i64 0]] W fun en w' => en = .returned (.bool (HoldsP (emS (86400 * ((d : Int) - 1) + (k : Int) - 86400) []) (beforeF d))) ∧ Below W.heap.size W w') := Lib.hid fun v W hf => holds_emS W _ _ v hf hg3 hk3 (by simp [beforeF])
  rw [hP1] at hHo1
  rw [hP2] at hHo2
  rw [hP3] at hHo3
  clear hP1 hP2 hP3 hg1 hg2 hg3 hk1 hk2' hk3 hR1 hR2 hR3 hTs
  have HB0 := Lib.hid (below_alloc1 (w.alloc (.cells #[.int .i64 1, .int .i64 0, .string ⟨#[]⟩, .int .i64 (86400 * ((d : Int) - 1) + (k : Int) - 86400), .slice none 0 0, .slice none 0 0, .int .i64 0, .int .i64 0] 39)) (.cells #[.int .u8 (48 + (d : Int) / 10), .int .u8 (48 + (d : Int) % 10)] 5))
  have HBW := Lib.hid (below_alloc1 w (.cells #[.int .i64 1, .int .i64 0, .string ⟨#[]⟩, .int .i64 (86400 * ((d : Int) - 1) + (k : Int) - 86400), .slice none 0 0, .slice none 0 0, .int .i64 0, .int .i64 0] 39))
  go_enter Tryz.func7, Tryz.ntmps7
  go_upto_region 5 with (fail)
  try rw [hct]
  clear hct hcv1
  go_upto_region 9 with (first
    | (go_at_call 15; have HG := HB0; refine (hw _ _).mono ?_; rintro e w1 ⟨rfl, hb⟩; have HB1 := Lib.hid (below_then HB0.out hb); clear hb HG HB0)
    | (go_at_call 15; have HG := HB1; refine (hw _ _).mono ?_; rintro e w2 ⟨rfl, hb⟩; have HB2 := Lib.hid (below_then HB1.out hb); clear hb HG HB1)
    | (go_at_call 11; have HG := HB2; refine (hRd1.out _ HB2.out).mono ?_; rintro e w3 ⟨A1, c1, rfl, hf1, hb⟩; have HB3 := Lib.hid (below_then HB2.out hb); have HF1 := Lib.hid hf1; clear hb hf1 HG HB2)
    | (go_at_call 15; have HG := HB3; refine (hw _ _).mono ?_; rintro e w4 ⟨rfl, hb⟩; have HB4 := Lib.hid (below_then HB3.out hb); have HF1 := Lib.hid (HF1.out.below hb); clear hb HG HB3)
    | (go_at_call 15; have HG := HB4; refine (hw _ _).mono ?_; rintro e w5 ⟨rfl, hb⟩; have HB5 := Lib.hid (below_then HB4.out hb); have HF1 := Lib.hid (HF1.out.below hb); clear hb HG HB4)
    | (go_at_call 11; have HG := HB5; refine (hRd2.out _ HB5.out).mono ?_; rintro e w6 ⟨A2, c2, rfl, hf2, hb⟩; have HB6 := Lib.hid (below_then HB5.out hb); have HF1 := Lib.hid (HF1.out.below hb); have HF2 := Lib.hid hf2; clear hb hf2 HG HB5)
    | (go_at_call 15; have HG := HB6; refine (hw _ _).mono ?_; rintro e w7 ⟨rfl, hb⟩; have HB7 := Lib.hid (below_then HB6.out hb); have HF1 := Lib.hid (HF1.out.below hb); have HF2 := Lib.hid (HF2.out.below hb); clear hb HG HB6)
    | (go_at_call 11; have HG := HB7; refine (hRd3.out _ HB7.out).mono ?_; rintro e w8 ⟨A3, c3, rfl, hf3, hb⟩; have HB8 := Lib.hid (below_then HB7.out hb); have HF1 := Lib.hid (HF1.out.below hb); have HF2 := Lib.hid (HF2.out.below hb); have HF3 := Lib.hid hf3; clear hb hf3 HG HB7)
    | fail)
  obtain ⟨x0, x1, x2, x3, x4, x5, x6, x7⟩ := mail8 HB8.out
  rcases (by omega : k < 86400 ∨ (86400 ≤ k ∧ k < 172800) ∨ 172800 ≤ k) with h1 | ⟨h1, h2⟩ | h1
  · have e1 : (decide (86400 * ((d : Int) - 1) ≤ 86400 * ((d : Int) - 1) + (k : Int) - 86400) && decide (86400 * ((d : Int) - 1) + (k : Int) - 86400 < 86400 * (d : Int))) = false := by simp; omega
    have e2 : decide (86400 * ((d : Int) - 1) ≤ 86400 * ((d : Int) - 1) + (k : Int) - 86400) = false := by simp; omega
    have e3 : decide (86400 * ((d : Int) - 1) + (k : Int) - 86400 < 86400 * ((d : Int) - 1)) = true := by simp; omega
    rw [e1] at hHo1
    rw [e2] at hHo2
    rw [e3] at hHo3
    clear e1 e2 e3
    go_wp2_with (first
      | (go_at_call 14; refine (hNu _ _).mono ?_; rintro e wn ⟨rfl, rfl⟩)
      | (go_at_call 16; have HG := HB8; refine (hHo1.out _ _ HF1.out).mono ?_; rintro e w9 ⟨rfl, hb⟩; have HB9 := Lib.hid (below_then HB8.out hb); have HF2 := Lib.hid (HF2.out.below hb); have HF3 := Lib.hid (HF3.out.below hb); obtain ⟨y0, y1, y2, y3, y4, y5, y6, y7⟩ := mail8 HB9.out; clear hb HG HB8)
      | (go_at_call 16; have HG := HB9; refine (hHo2.out _ _ HF2.out).mono ?_; rintro e w10 ⟨rfl, hb⟩; have HB10 := Lib.hid (below_then HB9.out hb); have HF3 := Lib.hid (HF3.out.below hb); obtain ⟨z0, z1, z2, z3, z4, z5, z6, z7⟩ := mail8 HB10.out; clear hb HG HB9)
      | (go_at_call 16; have HG := HB10; refine (hHo3.out _ _ HF3.out).mono ?_; rintro e w11 ⟨rfl, hb⟩; have HB11 := Lib.hid (below_then HB10.out hb); have HM11 := Lib.hid (HM0.out.below HB11.out); clear hb HG HB10)
      | (go_at_call 10; refine (hAw _ HM11.out).mono ?_; rintro e w12 ⟨rfl, hb⟩; have HB12 := Lib.hid (below_then HB11.out hb); clear hb)
      | fail)
    go_ret
    exact ⟨ret_bool (by simp <;> omega), below_then HBW.out HB12.out⟩
  · have e1 : (decide (86400 * ((d : Int) - 1) ≤ 86400 * ((d : Int) - 1) + (k : Int) - 86400) && decide (86400 * ((d : Int) - 1) + (k : Int) - 86400 < 86400 * (d : Int))) = true := by simp; omega
    have e2 : decide (86400 * ((d : Int) - 1) ≤ 86400 * ((d : Int) - 1) + (k : Int) - 86400) = true := by simp; omega
    have e3 : decide (86400 * ((d : Int) - 1) + (k : Int) - 86400 < 86400 * ((d : Int) - 1)) = false := by simp; omega
    rw [e1] at hHo1
    rw [e2] at hHo2
    rw [e3] at hHo3
    clear e1 e2 e3
    go_wp2_with (first
      | (go_at_call 14; refine (hNu _ _).mono ?_; rintro e wn ⟨rfl, rfl⟩)
      | (go_at_call 16; have HG := HB8; refine (hHo1.out _ _ HF1.out).mono ?_; rintro e w9 ⟨rfl, hb⟩; have HB9 := Lib.hid (below_then HB8.out hb); have HF2 := Lib.hid (HF2.out.below hb); have HF3 := Lib.hid (HF3.out.below hb); obtain ⟨y0, y1, y2, y3, y4, y5, y6, y7⟩ := mail8 HB9.out; clear hb HG HB8)
      | (go_at_call 16; have HG := HB9; refine (hHo2.out _ _ HF2.out).mono ?_; rintro e w10 ⟨rfl, hb⟩; have HB10 := Lib.hid (below_then HB9.out hb); have HF3 := Lib.hid (HF3.out.below hb); obtain ⟨z0, z1, z2, z3, z4, z5, z6, z7⟩ := mail8 HB10.out; clear hb HG HB9)
      | (go_at_call 16; have HG := HB10; refine (hHo3.out _ _ HF3.out).mono ?_; rintro e w11 ⟨rfl, hb⟩; have HB11 := Lib.hid (below_then HB10.out hb); have HM11 := Lib.hid (HM0.out.below HB11.out); clear hb HG HB10)
      | (go_at_call 10; refine (hAw _ HM11.out).mono ?_; rintro e w12 ⟨rfl, hb⟩; have HB12 := Lib.hid (below_then HB11.out hb); clear hb)
      | fail)
    go_ret
    exact ⟨ret_bool (by simp <;> omega), below_then HBW.out HB12.out⟩
  · have e1 : (decide (86400 * ((d : Int) - 1) ≤ 86400 * ((d : Int) - 1) + (k : Int) - 86400) && decide (86400 * ((d : Int) - 1) + (k : Int) - 86400 < 86400 * (d : Int))) = false := by simp; omega
    have e2 : decide (86400 * ((d : Int) - 1) ≤ 86400 * ((d : Int) - 1) + (k : Int) - 86400) = true := by simp; omega
    have e3 : decide (86400 * ((d : Int) - 1) + (k : Int) - 86400 < 86400 * ((d : Int) - 1)) = false := by simp; omega
    rw [e1] at hHo1
    rw [e2] at hHo2
    rw [e3] at hHo3
    clear e1 e2 e3
    go_wp2_with (first
      | (go_at_call 14; refine (hNu _ _).mono ?_; rintro e wn ⟨rfl, rfl⟩)
      | (go_at_call 16; have HG := HB8; refine (hHo1.out _ _ HF1.out).mono ?_; rintro e w9 ⟨rfl, hb⟩; have HB9 := Lib.hid (below_then HB8.out hb); have HF2 := Lib.hid (HF2.out.below hb); have HF3 := Lib.hid (HF3.out.below hb); obtain ⟨y0, y1, y2, y3, y4, y5, y6, y7⟩ := mail8 HB9.out; clear hb HG HB8)
      | (go_at_call 16; have HG := HB9; refine (hHo2.out _ _ HF2.out).mono ?_; rintro e w10 ⟨rfl, hb⟩; have HB10 := Lib.hid (below_then HB9.out hb); have HF3 := Lib.hid (HF3.out.below hb); obtain ⟨z0, z1, z2, z3, z4, z5, z6, z7⟩ := mail8 HB10.out; clear hb HG HB9)
      | (go_at_call 16; have HG := HB10; refine (hHo3.out _ _ HF3.out).mono ?_; rintro e w11 ⟨rfl, hb⟩; have HB11 := Lib.hid (below_then HB10.out hb); have HM11 := Lib.hid (HM0.out.below HB11.out); clear hb HG HB10)
      | (go_at_call 10; refine (hAw _ HM11.out).mono ?_; rintro e w12 ⟨rfl, hb⟩; have HB12 := Lib.hid (below_then HB11.out hb); clear hb)
      | fail)
    go_ret
    exact ⟨ret_bool (by simp <;> omega), below_then HBW.out HB12.out⟩

end Go.Proofs.YtnfabgbidkddhaaGreatDoor
