/-
  The walk of pillarboxlaw21.SeqEmpty.
-/
import Derived.Test.YtogmdfjgedekgaaDoorSeqLawW
import Derived.StillTailTactics
namespace Go.Proofs.YtogmdfjgedekgaaDoor
open Go.RowKit Go.Lib
attribute [local go_sem ↓] Go.wp_at_zero Go.wp_at_succ

theorem emptyA : refReadL [42] 0 = ([], 0) := by decide +kernel
theorem dig_len (n : Nat) (h : n ≤ 65535) : (digL (1 + (n : Int))).length ≤ 21 := digL_le _ (by omega)
theorem emptyB (n : Nat) (h : n ≤ 65535) : refReadL (digL (1 + (n : Int)) ++ [58, 42]) (-1) = ([(1, 1 + (n : Int))], 0) := by
  have hp : partL (digL (1 + (n : Int)) ++ 58 :: [42]) (-1) = (rng2 (1 + (n : Int)) 0, true) := partL_two _ [42] (-1) _ _ (dig_no _ 58 (.inr (by decide))) (boundL_dig _ _ (by omega) (by omega)) (by decide)
  have hl := dig_len n h
  rw [show ([58, 42] : List UInt8) = 58 :: [42] from rfl, refRead_one _ _ _ (by simp; omega) (fun b hb => ?_) hp]
  · have e : rng2 (1 + (n : Int)) 0 = (0, 1 + (n : Int)) := by
      unfold rng2
      rw [if_pos (by omega), if_neg (by omega)]
    rw [e, rGo_one, if_neg (by omega)]
    rfl
  · rcases List.mem_append.1 hb with hb | hb
    · exact dig_no _ 44 (.inl (by decide)) b hb
    · simp at hb
      rcases hb with rfl | rfl <;> decide
theorem emptyC (n : Nat) (h : n ≤ 65535) : refReadL (49 :: 58 :: digL (1 + (n : Int))) 9 = ([(1, 1 + (n : Int))], 0) := by
  have hp : partL ([49] ++ 58 :: digL (1 + (n : Int))) 9 = (rng2 1 (1 + (n : Int)), true) := partL_two [49] _ 9 _ _ (by decide) (by decide +kernel) (boundL_dig _ _ (by omega) (by omega))
  have hl := dig_len n h
  rw [show (49 :: 58 :: digL (1 + (n : Int))) = [49] ++ 58 :: digL (1 + (n : Int)) from rfl, refRead_one _ _ _ (by simp; omega) (fun b hb => ?_) hp]
  · have e : rng2 1 (1 + (n : Int)) = (1, 1 + (n : Int)) := by
      unfold rng2
      by_cases h0 : n = 0
      · subst h0
        rfl
      · rw [if_neg (by omega), if_pos (by omega)]
    rw [e, rGo_one, if_neg (by omega)]
    rfl
  · rcases List.mem_append.1 hb with hb | hb
    · simp at hb
      rw [hb]
      decide
    · rcases List.mem_cons.1 hb with rfl | hb
      · decide
      · exact dig_no _ 44 (.inl (by decide)) b hb

theorem Mx.drew {w : World} (h : Mx w) : Mx w.drew := h
theorem below_undrew {w w' : World} (h : Below w.drew.heap.size w.drew w') : Below w.heap.size w w' := ⟨h.os, h.tape, h.output, h.size, h.block⟩

set_option maxRecDepth 100000 in
set_option maxHeartbeats 4000000 in
theorem seqEmpty_any (n : Nat) (h : n ≤ 65535) (w : World) (hm : Mx w) :
    Calls Tryd.prog 5 #[.int .u16 n] w fun e w' => e = .returned (.bool true) ∧ Below w.heap.size w w' := by
  have hd := digitsL_any n h w
  have hl := dig_len n h
  have ra := fun W (hW : Mx W) => readV_any [42] 0 [] 0 W (by decide) (by decide) hW emptyA
  have rb := fun W (hW : Mx W) => readV_any (digL (1 + (n : Int)) ++ [58, 42]) (-1) _ 0 W (by simp; omega) (by decide) hW (emptyB n h)
  have rc := fun W (hW : Mx W) => readV_any (49 :: 58 :: digL (1 + (n : Int))) 9 _ 0 W (by simp; omega) (by decide) hW (emptyC n h)
  have hNu := fun W => numS_any W 0
  have HAW := Lib.hid (fun W (hW : Mx W) => awakeS_any W hW)
  have hap : ∀ a b : List UInt8, ByteArray.mk a.toArray ++ ByteArray.mk b.toArray = ByteArray.mk (a ++ b).toArray := fun a b => ByteArray.mk_append_mk a b
  have HM := Lib.hid hm
  have hn0 : (n : Int) ≤ 65535 := by omega
  clear hm
  generalize digL (1 + (n : Int)) = D at hd hl rb rc
  go_enter Tryd.func5, Tryd.ntmps5
  go_wp2_with (first
    | (go_at_call 9; refine hd.mono ?_; rintro e w1 ⟨rfl, hb⟩; have HB1 := Lib.hid hb; clear hb hd)
    | (go_at_call 10; ((with_reducible refine (ra _ (HM.out.below HB1.out)).mono ?_); rintro e w2 ⟨v2, h2, rfl, hs, hb⟩; have HB2 := Lib.hid (HB1.out.trans (hb.mono HB1.out.size)); obtain ⟨A2, cap2, rfl, _, _⟩ := hs.form; simp only [List.length_nil] at *; clear hb hs ra))
    | (go_at_call 10; ((with_reducible refine (rb _ (HM.out.below HB2.out)).mono ?_); rintro e w3 ⟨v3, h3, rfl, hs, hb⟩; have HB3 := Lib.hid (HB2.out.trans (hb.mono HB2.out.size)); have HS3 := Lib.hid hs; obtain ⟨b3, off3, cap3, _, rfl, hc3, _, hlt3, hat⟩ := hs.at_ (by simp); simp only [List.length_cons, List.length_nil, Nat.zero_add] at hc3; have x0 := (hat 0 (by simp)).1; have x1 := (hat 1 (by simp)).1; clear hat hb hs rb; simp only [flatR, encR, List.flatMap_cons, List.flatMap_nil, List.append_nil, List.getElem?_cons_zero, List.getElem?_cons_succ, Nat.add_zero] at x0 x1))
    | (go_at_call 10; (with_reducible refine (rc _ (HM.out.below HB3.out)).mono ?_); rintro e w4 ⟨v4, h4, rfl, hs, hb⟩; have HB4 := Lib.hid (HB3.out.trans (hb.mono HB3.out.size)); obtain ⟨b4, off4, cap4, _, rfl, hc4, _, hlt4, hat⟩ := hs.at_ (by simp); simp only [List.length_cons, List.length_nil, Nat.zero_add] at hc4; have y0 := (hat 0 (by simp)).1; have y1 := (hat 1 (by simp)).1; have z0 := (hb.cell (p := ⟨b3, off3, none⟩) hlt3).trans x0; have z1 := (hb.cell (p := ⟨b3, off3 + 1, none⟩) hlt3).trans x1; clear hat hb hs rc x0 x1; simp only [flatR, encR, List.flatMap_cons, List.flatMap_nil, List.append_nil, List.getElem?_cons_zero, List.getElem?_cons_succ, Nat.add_zero] at y0 y1)
    | (go_at_call 11; refine (hNu _).mono ?_; rintro e wn ⟨rfl, rfl⟩)
    | fail)
  clear hNu hap
  go_still_tail 13, (by kernel_rfl)
  change wpList _ _ _ _ _ w4.drew
  have hAw := HAW.out w4.drew (HM.out.below HB4.out).drew
  go_wp2_with (first
    | (go_at_call 13; refine hAw.mono ?_; rintro e w5 ⟨rfl, hb⟩; have HB5 := Lib.hid (HB4.out.trans ((below_undrew hb).mono HB4.out.size)); clear hb hAw)
    | fail)
  go_ret
  exact ⟨rfl, HB5.out⟩

end Go.Proofs.YtogmdfjgedekgaaDoor
