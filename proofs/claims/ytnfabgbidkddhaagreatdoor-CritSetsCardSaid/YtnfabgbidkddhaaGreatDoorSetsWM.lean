/-
  The walk of pillarboxlaw23.CritSets.
-/
import Derived.Test.YtnfabgbidkddhaaGreatDoorGCD
import Derived.Test.YtnfabgbidkddhaaGreatDoorGCX
import Derived.Deep.RegionLaw
import Derived.Deep.RegionHeld3
namespace Go.Proofs.YtnfabgbidkddhaaGreatDoor
open Go.RowKit
attribute [local go_sem ↓] Go.wp_at_zero Go.wp_at_succ

/-- What the first loop keeps: the numbers so far, the last one. -/
structure NuSt (w wr : World) (gs : List Int) (k : Nat) (lv : Value) (hh : Option Nat) (n : Int) : Prop where
  sl : Sl wr 3 1 lv hh k (intC (numsG (gs.take k) 0))
  last : n = (numsG (gs.take k) 0).getLast?.getD 0
  lo : 0 ≤ n
  hi : n ≤ 5 * k
  own : ∀ b, hh = some b → w.heap.size ≤ b
  bel : Below w.heap.size w wr
theorem NuSt.push {w wr w2 : World} {gs : List Int} {k : Nat} {lv v' : Value} {hh h' : Option Nat} {n x : Int} (p : NuSt w wr gs k lv hh n) (hk : k < gs.length) (hx : gs[k] = x)
    (hs : Sl w2 3 1 v' h' (k + 1) (intC (numsG (gs.take k) 0) ++ [.int .i64 (n + 1 + x % 5)])) (hc : Chg hh.toList wr w2) (ho : h' = hh ∨ ∃ b, h' = some b ∧ wr.heap.size ≤ b) :
    NuSt w w2 gs (k + 1) v' h' (n + 1 + x % 5) := by
  have hsz := p.bel.size
  have hn : numsG (gs.take (k + 1)) 0 = numsG (gs.take k) 0 ++ [n + 1 + x % 5] := by
    rw [List.take_succ_eq_append_getElem hk, numsG_snoc, hx, p.last]
  have h0 := p.lo
  have h1 := p.hi
  refine ⟨?_, ?_, by omega, by omega, fun b hb => ?_, p.bel.trans (hc.below hsz fun b hb => p.own b (by simpa using hb))⟩
  · rw [hn]
    unfold intC at hs ⊢
    rw [List.map_append]
    exact hs
  · rw [hn, List.getLast?_append]
    rfl
  · rcases ho with h1 | ⟨b', h1, h2⟩
    · exact p.own b (by rw [← h1]; exact hb)
    · rw [h1] at hb
      injection hb with hb
      omega

set_option maxRecDepth 100000 in
set_option maxHeartbeats 40000000 in
theorem critSets_any (a b : Nat) (ha : a < 256) (hb2 : b < 256) (v : Value) (gs : List Int) (w : World) (hm : Mx w) (hr : RdS w [] 1 v gs.length (gs.map (Value.int .u8))) (hb : ∀ g ∈ gs, 0 ≤ g ∧ g ≤ 255) :
    Calls Tryz.prog 5 #[v, .int .u8 (a : Int), .int .u8 (b : Int)] w fun e w' => e = .returned (.bool true) ∧ Below w.heap.size w w' := by
  have hw := fun s W => word_anyL s W
  have hNu := fun n W => numC_any n W
  have hAw := fun W hm => awake_anyL W hm
  obtain ⟨m, hmn⟩ : ∃ m, gs.length = m := ⟨_, rfl⟩
  rw [hmn] at hr
  obtain ⟨A, cap, rfl, hc1, hc2⟩ := hr.form
  have hmb : m ≤ 9223372036854775807 := by
    unfold maxLen at hc2
    omega
  have HR := Lib.hid hr
  have HMN := Lib.hid hmn
  have HGB := Lib.hid hb
  have HM := Lib.hid hm
  clear hr hmn hb
  obtain ⟨x, hx⟩ : ∃ x, 1 + a % 70 = x := ⟨_, rfl⟩
  have hx1 : 1 ≤ x ∧ x < 71 := by omega
  have hax : 1 + (a : Int) % 70 = (x : Int) := by omega
  obtain ⟨y, hy⟩ : ∃ y, 1 + b % 70 = y := ⟨_, rfl⟩
  have hy1 : 1 ≤ y ∧ y < 71 := by omega
  have hby : 1 + (b : Int) % 70 = (y : Int) := by omega
  by_cases h0 : m = 0
  · subst h0
    go_enter Tryz.func5, Tryz.ntmps5
    go_wp2_with (first
      | (go_at_call 10; refine (hAw _ HM.out).mono ?_; rintro e w2 ⟨rfl, hb⟩; have HB2 := Lib.hid hb; clear hb)
      | fail)
    go_ret
    exact ⟨rfl, HB2.out⟩
  · have hm0 : ((m : Int) == 0) = false := by rw [beq_eq_false_iff_ne]; omega
    by_cases h60 : 60 < m
    · go_enter Tryz.func5, Tryz.ntmps5
      go_wp2_with (first
        | (go_at_call 10; refine (hAw _ HM.out).mono ?_; rintro e w2 ⟨rfl, hb⟩; have HB2 := Lib.hid hb; clear hb)
        | fail)
      go_ret
      exact ⟨rfl, HB2.out⟩
    · go_enter Tryz.func5, Tryz.ntmps5
      go_wp2
      have HN0 : Hid (NuSt w w gs 0 (.slice none 0 0) none 0) := Lib.hid ⟨Sl.nil _ _ _, rfl, by omega, by omega, by simp, Below.refl _ _⟩
      obtain ⟨i0, hi, hz0, hz1, hz2⟩ := info_parts Tryz.infoInt
      go_loopw [7, 8, 9] (fun lv nv iv wr => ∃ (k : Nat) (hh : Option Nat) (n : Int), k ≤ m ∧ iv = .int .i64 k ∧ nv = .int .i64 n ∧ Hid (NuSt w wr gs k lv hh n)) (fun _ _ iv _ => m - (intOf iv).toNat)
      case atStart => exact ⟨0, none, 0, Nat.zero_le _, rfl, rfl, HN0⟩
      case round =>
        obtain ⟨k, hh, n, hk, rfl, rfl, HU⟩ := hrel
        by_cases hlt : k < m
        · have hke : k < gs.length := by rw [HMN.out]; exact hlt
          obtain ⟨bb, off, cap2, hva, _, _, hbl, _, hat⟩ := HR.out.at_ (by omega)
          injection hva with hva1 hva2 hva3
          subst hva1
          clear hva2 hva3
          have hc := hat k (by omega)
          have hg : (gs.map (Value.int .u8))[k]? = some (.int .u8 gs[k]) := by simp [hke]
          rw [hg] at hc
          have d0 : wr.cell? ⟨bb, off + k, none⟩ = some (.int .u8 gs[k]) := (HU.out.bel.cell (p := ⟨bb, off + k, none⟩) hbl).trans hc
          obtain ⟨hg0, hg1⟩ := HGB.out gs[k] (List.getElem_mem hke)
          have hpush := fun w2 v' h' => HU.out.push (w2 := w2) (v' := v') (h' := h') hke rfl
          obtain ⟨g, hgx⟩ : ∃ g, gs[k] = g := ⟨_, rfl⟩
          rw [hgx] at d0 hpush hg0 hg1
          have HPU := Lib.hid hpush
          have hn0 := HU.out.lo
          have hn1 := HU.out.hi
          have hsl := HU.out.sl
          have HSL := Lib.hid hsl
          clear hat hg hc hgx hsl hpush HU
          go_wp2_with (first
            | (at_builtin; refine wpList_append_slX rfl _ _ 23 rfl Tryz.underlying23 hi hz0 hz1 hz2 rfl (by decide) HSL.out rfl wr.heap.size rfl 1 1 rfl rfl ?_ ?_ ?_ ?_)
            | fail)
          · simp [Value.oneCell']
          · unfold maxLen
            omega
          · omega
          · intro v' h' w4 r1 r2 r3
            have hst := HPU.out w4 v' h' (by simpa using r1) r2 (by simpa using r3)
            have HST := Lib.hid hst
            clear hst r1 r2 r3 HSL
            go_wp2
            refine ⟨?_, by simp [intOf]; omega⟩
            first | exact ⟨k + 1, _, _, by omega, by go_num, rfl, HST⟩ | ((repeat apply Exists.intro); exact ⟨⟨k + 1, _, _, by omega, by go_num, rfl, HST⟩, rfl⟩)
        · have hkm : k = m := by omega
          subst hkm
          obtain ⟨wo, hwo⟩ : ∃ wo, wo = wr := ⟨_, rfl⟩
          subst hwo
          have htk : gs.take k = gs := List.take_of_length_le (by rw [HMN.out]; exact Nat.le_refl _)
          obtain ⟨hsl, _, _, _, _, hbe⟩ := HU.out
          rw [htk] at hsl
          obtain ⟨L, hL⟩ : ∃ L, numsG gs 0 = L := ⟨_, rfl⟩
          have hris := numsG_rising gs
          have hLk : L.length = k := by rw [← hL, numsG_length, HMN.out]
          have hLb : ∀ u ∈ L, 1 ≤ u ∧ u ≤ 1099511627776 := fun u hu => by
            have h1 := (numsG_ok gs 0).1 u (by rw [hL]; exact hu)
            rw [HMN.out] at h1
            omega
          rw [hL] at hsl hris
          obtain ⟨Al, cl, hlf, _, _⟩ := hsl.form
          subst hlf
          have hLr := hsl.reads [] (by simp)
          have hHB0 := Lib.hid (Below.refl wo.heap.size wo)
          obtain ⟨hk5, hpl⟩ : (setL x y).length ≤ 5 ∧ isPlace (setT x y) = true := ⟨(set_ok hx1 hy1).2.1, (set_ok hx1 hy1).2.2.1⟩
          have hR1 := place_read ⟨3, L⟩ hx1 hy1
          have hR2 := uid_read ⟨3, L⟩ hx1 hy1
          simp only at hR1 hR2
          have hTT : Hid (∀ (z : Nat) (W : World), z < 71 → Calls Tryz.prog 18 #[.slice (some ⟨W.heap.size, 0, none⟩) 1 1] (W.alloc (.cells #[.int .i64 (z : Int)] 3)) fun e w' => e = .returned (.string ⟨(textL [(z : Int)]).toArray⟩) ∧ Below W.heap.size W w') := Lib.hid fun z W hz =>
            (refText_any (W.alloc (.cells #[.int .i64 (z : Int)] 3)) (.slice (some ⟨W.heap.size, 0, none⟩) 1 1) 1 [(z : Int)] rfl ((Sl.lit W 3 [.int .i64 (z : Int)] 1 rfl (by decide)).reads [] (by simp)) (by decide) (by intro q hq; rw [List.mem_singleton.1 hq]; omega)).mono fun e w' hh => ⟨hh.1, below_then (below_alloc1 W _) hh.2⟩
          have hsT : (⟨(textL [(x : Int)]).toArray⟩ : ByteArray) ++ ⟨#[58]⟩ ++ ⟨(textL [(y : Int)]).toArray⟩ = setT x y := by
            apply ByteArray.ext
            rw [ByteArray.data_append, ByteArray.data_append]
            simp [setT, setL]
          have hTs : (setT x y).size ≤ 1100 := by
            show (setL x y).toArray.size ≤ 1100
            simp
            omega
          have hlx : (⟨(textL [(x : Int)]).toArray⟩ : ByteArray).size ≤ 5 ∧ (⟨(textL [(y : Int)]).toArray⟩ : ByteArray).size ≤ 5 := by
            have : (setL x y).length = (textL [(x : Int)]).length + ((textL [(y : Int)]).length + 1) := by simp [setL]
            refine ⟨?_, ?_⟩
            · show (textL [(x : Int)]).toArray.size ≤ 5
              simp
              omega
            · show (textL [(y : Int)]).toArray.size ≤ 5
              simp
              omega
          have hTx := hTT.out x
          have hTy := hTT.out y
          obtain ⟨T, hT⟩ : ∃ T, setT x y = T := ⟨_, rfl⟩
          obtain ⟨TX, hTX⟩ : ∃ T, (⟨(textL [(x : Int)]).toArray⟩ : ByteArray) = T := ⟨_, rfl⟩
          obtain ⟨TY, hTY⟩ : ∃ T, (⟨(textL [(y : Int)]).toArray⟩ : ByteArray) = T := ⟨_, rfl⟩
          rw [hT] at hR1 hR2 hsT hTs
          rw [hTX] at hTx hsT hlx
          rw [hTY] at hTy hsT hlx
          have hmn := fun ats ty W => run_min_int (P := Tryz.prog) ats ty (x : Int) y W
          have hmx := fun ats ty W => run_max_int (P := Tryz.prog) ats ty (x : Int) y W
          rw [show (if (y : Int) < x then (y : Int) else x) = mnI x y from rfl] at hmn
          rw [show (if (x : Int) < y then (y : Int) else x) = mxI x y from rfl] at hmx
          generalize mnI x y = mn at hR1 hR2 hmn
          generalize mxI x y = mx at hR1 hR2 hmx
          obtain ⟨S1, hS1⟩ : ∃ S, mergeR (placesGo [(mn, mx)] 0 L) = S := ⟨_, rfl⟩
          rw [hS1] at hR1
          have hPI := fun i hi => place_in hris mn mx i hi
          rw [hS1] at hPI
          have hRd1 : Hid (∀ W, Below wo.heap.size wo W → Calls Tryz.prog 11 #[.slice (some ⟨W.heap.size, 0, none⟩) 1 1, .int .i64 3, .slice Al k cl] (W.alloc (.cells #[.int .i64 1, .string T, .slice none 0 0] 41)) (RdOut W 2 (setF 3 S1))) := Lib.hid fun W hb => by
            have hea : EAt (W.alloc (.cells #[.int .i64 1, .string T, .slice none 0 0] 41)) (.slice Al k cl) ⟨3, L⟩ := ⟨by rw [hLk]; exact (hLr.below hb).below ((Below.refl _ _).alloc (Nat.le_refl _) _), by rw [hLk]; omega, hLb, (HM.out.below (below_then hbe hb)).below ((Below.refl _ _).alloc (Nat.le_refl _) _)⟩
            have h := critRead_any (W.alloc (.cells #[.int .i64 1, .string T, .slice none 0 0] 41)) _ (.slice Al k cl) ⟨3, L⟩ (flatW [(1, T)]) (WsAt.lit W 41 [(1, T)] 1 rfl (by decide)) (okL_one hTs) hea (by rw [szL_flat]; simp)
            rw [hR1] at h
            exact h.mono fun e w' hh => ROut.known hh (below_alloc1 W _) 2 rfl
          have hRd2 : Hid (∀ W, Below wo.heap.size wo W → Calls Tryz.prog 11 #[.slice (some ⟨W.heap.size, 0, none⟩) 2 2, .int .i64 3, .slice Al k cl] (W.alloc (.cells #[.int .i64 1, .string ⟨#[85, 105, 100]⟩, .slice none 0 0, .int .i64 1, .string T, .slice none 0 0] 41)) (RdOut W 2 (setF 3 [(mn, mx)]))) := Lib.hid fun W hb => by
            have hea : EAt (W.alloc (.cells #[.int .i64 1, .string ⟨#[85, 105, 100]⟩, .slice none 0 0, .int .i64 1, .string T, .slice none 0 0] 41)) (.slice Al k cl) ⟨3, L⟩ := ⟨by rw [hLk]; exact (hLr.below hb).below ((Below.refl _ _).alloc (Nat.le_refl _) _), by rw [hLk]; omega, hLb, (HM.out.below (below_then hbe hb)).below ((Below.refl _ _).alloc (Nat.le_refl _) _)⟩
            have h := critRead_any (W.alloc (.cells #[.int .i64 1, .string ⟨#[85, 105, 100]⟩, .slice none 0 0, .int .i64 1, .string T, .slice none 0 0] 41)) _ (.slice Al k cl) ⟨3, L⟩ (flatW [(1, uidT), (1, T)]) (WsAt.lit W 41 [(1, uidT), (1, T)] 2 rfl (by decide)) (okL_two (by decide) hTs) hea (by rw [szL_flat]; simp)
            rw [hR2] at h
            exact h.mono fun e w' hh => ROut.known hh (below_alloc1 W _) 2 rfl
          have HTX := Lib.hid fun W => hTx W (by omega)
          have HTY := Lib.hid fun W => hTy W (by omega)
          have HPI := Lib.hid hPI
          have HLR := Lib.hid hLr
          have HLK := Lib.hid hLk
          have HBE := Lib.hid hbe
          obtain ⟨hl1, hl2⟩ := hlx
          have hc1 : ¬ 9223372036854775807 < TX.size + 1 := by omega
          have hl3 : (TX ++ ⟨#[58]⟩).size ≤ 6 := by
            rw [ByteArray.size_append]
            show _ + 1 ≤ 6
            omega
          obtain ⟨TXC, hTXC⟩ : ∃ t, TX ++ (⟨#[58]⟩ : ByteArray) = t := ⟨_, rfl⟩
          rw [hTXC] at hsT hl3
          have hc2 : ¬ 9223372036854775807 < TXC.size + TY.size := by omega
          clear hsl hL hris hLb hLr hLk hk5 hpl hR1 hR2 hTT hTs hT hTX hTY hS1 hPI hTx hTy hbe HU htk HN0
          go_upto_region 14 with (first
            | (go_at_call 18; have HG := hHB0; refine (HTX.out _).mono ?_; rintro e w1 ⟨rfl, hb⟩; have HB1 := Lib.hid (below_then hHB0.out hb); clear hb HG hHB0)
            | (go_at_call 18; have HG := HB1; refine (HTY.out _).mono ?_; rintro e w2 ⟨rfl, hb⟩; have HB2 := Lib.hid (below_then HB1.out hb); clear hb HG HB1)
            | (go_at_call 15; have HG := HB2; refine (hw _ _).mono ?_; rintro e w3 ⟨rfl, hb⟩; have HB3 := Lib.hid (below_then HB2.out hb); clear hb HG HB2)
            | (go_at_call 11; have HG := HB3; refine (hRd1.out _ HB3.out).mono ?_; rintro e w4 ⟨A1, c1, rfl, hf1, hb⟩; have HB4 := Lib.hid (below_then HB3.out hb); have HF1 := Lib.hid hf1; clear hb hf1 HG HB3)
            | (go_at_call 15; have HG := HB4; refine (hw _ _).mono ?_; rintro e w5 ⟨rfl, hb⟩; have HB5 := Lib.hid (below_then HB4.out hb); have HF1 := Lib.hid (HF1.out.below hb); clear hb HG HB4)
            | (go_at_call 15; have HG := HB5; refine (hw _ _).mono ?_; rintro e w6 ⟨rfl, hb⟩; have HB6 := Lib.hid (below_then HB5.out hb); have HF1 := Lib.hid (HF1.out.below hb); clear hb HG HB5)
            | (go_at_call 11; have HG := HB6; refine (hRd2.out _ HB6.out).mono ?_; rintro e w7 ⟨A2, c2, rfl, hf2, hb⟩; have HB7 := Lib.hid (below_then HB6.out hb); have HF1 := Lib.hid (HF1.out.below hb); have HF2 := Lib.hid hf2; clear hb hf2 HG HB6)
            | fail)
          go_wp2_with (first
            | (go_at_call 14; refine (hNu _ _).mono ?_; rintro e wn ⟨rfl, rfl⟩)
            | fail)
          clear hRd1 hRd2 HTX HTY hc1 hc2 hl1 hl2 hl3 hsT hTXC
          go_loopw [19] (fun iv wr => ∃ j : Nat, j ≤ k ∧ iv = .int .i64 j ∧ Hid (Below wo.heap.size wo wr) ∧ Hid (FAt wr (.slice A1 2 c1) (setF 3 S1)) ∧ Hid (FAt wr (.slice A2 2 c2) (setF 3 [(mn, mx)]))) (fun iv _ => k - (intOf iv).toNat)
          case atStart => exact ⟨0, Nat.zero_le _, rfl, HB7, HF1, HF2⟩
          case round =>
            obtain ⟨j, hj, rfl, HQ, HG1, HG2⟩ := hrel
            by_cases hjk : j < k
            · have hje : j < L.length := by rw [HLK.out]; exact hjk
              obtain ⟨bl, offl, capl, hva, _, _, hbl, _, hat⟩ := HLR.out.at_ (by omega)
              injection hva with hva1 hva2 hva3
              subst hva1
              clear hva2 hva3
              have hc := hat j (by omega)
              have hg : (intC L)[j]? = some (.int .i64 L[j]) := by simp [intC, hje]
              rw [hg] at hc
              have d0 : wr.cell? ⟨bl, offl + j, none⟩ = some (.int .i64 L[j]) := (HQ.out.cell (p := ⟨bl, offl + j, none⟩) hbl).trans hc
              have hpi := HPI.out j hje
              obtain ⟨u, hu⟩ : ∃ u, L[j] = u := ⟨_, rfl⟩
              rw [hu] at d0 hpi
              have hbl2 : bl < wr.heap.size := Nat.lt_of_lt_of_le hbl HQ.out.size
              obtain ⟨W2, hW2⟩ : ∃ W, ((wr.alloc (.cells #[.int .i64 3, .int .i64 u] 49)).alloc (.cells #[.int .i64 1, .int .i64 0, .string ⟨#[]⟩, .int .i64 0, .slice none 0 0, .slice (some ⟨wr.heap.size, 0, none⟩) 1 1, .int .i64 0, .int .i64 0] 39)) = W := ⟨_, rfl⟩
              have hb2' : Below wr.heap.size wr W2 := by rw [← hW2]; exact ((Below.refl _ _).alloc (Nat.le_refl _) _).alloc (by simp) _
              have hBM : Blk W2 wr.heap.size 49 #[.int .i64 3, .int .i64 u] := by rw [← hW2]; exact (Blk.new wr _ _).alloc _
              have hBL : Blk W2 (wr.heap.size + 1) 39 #[.int .i64 1, .int .i64 0, .string ⟨#[]⟩, .int .i64 0, .slice none 0 0, .slice (some ⟨wr.heap.size, 0, none⟩) 1 1, .int .i64 0, .int .i64 0] := by rw [← hW2]; exact blk_new2 wr _ _ _
              have hH1 : Hid (∀ W, Below W2.heap.size W2 W → Calls Tryz.prog 16 #[.slice A1 2 c1, .agg #[.int .i64 1, .int .i64 0, .string ⟨#[]⟩, .int .i64 0, .slice none 0 0, .slice (some ⟨wr.heap.size, 0, none⟩) 1 1, .int .i64 0, .int .i64 0]] W fun en w' => en = .returned (.bool (decide (mn ≤ (j : Int) + 1) && decide ((j : Int) + 1 ≤ mx))) ∧ Below W.heap.size W w') := Lib.hid fun W hb => by
                obtain ⟨z1, z2, z3⟩ := set_good 3 S1
                have h := holds_mem W 1 3 u wr.heap.size (hBM.below hb hBM.lt) (setF 3 S1) (.slice A1 2 c1) ((HG1.out.below hb2').below hb) z1 z2 z3
                rw [holds_setM, hpi] at h
                exact h
              have hH2 : Hid (∀ W, Below W2.heap.size W2 W → Calls Tryz.prog 16 #[.slice A2 2 c2, .agg #[.int .i64 1, .int .i64 0, .string ⟨#[]⟩, .int .i64 0, .slice none 0 0, .slice (some ⟨wr.heap.size, 0, none⟩) 1 1, .int .i64 0, .int .i64 0]] W fun en w' => en = .returned (.bool (decide (mn ≤ u) && decide (u ≤ mx))) ∧ Below W.heap.size W w') := Lib.hid fun W hb => by
                obtain ⟨z1, z2, z3⟩ := set_good 3 [(mn, mx)]
                have h := holds_mem W 1 3 u wr.heap.size (hBM.below hb hBM.lt) (setF 3 [(mn, mx)]) (.slice A2 2 c2) ((HG2.out.below hb2').below hb) z1 z2 z3
                rw [holds_setM, uid_in] at h
                exact h
              have HCL : Hid (∀ W, Below W2.heap.size W2 W → W.cell? ⟨bl, offl + j, none⟩ = some (.int .i64 u) ∧ Blk W (wr.heap.size + 1) 39 #[.int .i64 1, .int .i64 0, .string ⟨#[]⟩, .int .i64 0, .slice none 0 0, .slice (some ⟨wr.heap.size, 0, none⟩) 1 1, .int .i64 0, .int .i64 0]) := Lib.hid fun W hb => ⟨((hb2'.trans (hb.mono hb2'.size)).cell (p := ⟨bl, offl + j, none⟩) hbl2).trans d0, hBL.below hb hBL.lt⟩
              obtain ⟨hd2, hB2⟩ := HCL.out W2 (Below.refl _ _)
              obtain ⟨x0, x1, x2, x3, x4, x5, x6, x7⟩ := mail8B hB2
              have HB2 := Lib.hid hb2'
              have HBX := Lib.hid (Below.refl W2.heap.size W2)
              have HW2 := Lib.hid hW2
              clear hat hg hc hu hpi hb2' hBM hBL hB2 hW2
              go_upto_region 20 with (fail)
              rw [HW2.out]
              have hp : (¬ mn ≤ (j : Int) + 1) ∨ mn ≤ (j : Int) + 1 := by omega
              have hq : (¬ mn ≤ u) ∨ mn ≤ u := by omega
              rcases hp with h1 | h1 <;> rcases hq with g1 | g1
              · have e1 : (decide (mn ≤ (j : Int) + 1) && decide ((j : Int) + 1 ≤ mx)) = false := by rw [decide_eq_false (by omega)]; rfl
                have e2 : (decide (mn ≤ u) && decide (u ≤ mx)) = false := by rw [decide_eq_false (by omega)]; rfl
                rw [e1] at hH1
                rw [e2] at hH2
                clear e1 e2
                refine wp_region_held_drew (S := fun V => V.cell? ⟨bl, offl + j, none⟩ = some (.int .i64 u) ∧ V.cell? ⟨wr.heap.size + 1, 0, none⟩ = some (.int .i64 1) ∧ V.cell? ⟨wr.heap.size + 1, 1, none⟩ = some (.int .i64 0) ∧ V.cell? ⟨wr.heap.size + 1, 2, none⟩ = some (.string ⟨#[]⟩) ∧ V.cell? ⟨wr.heap.size + 1, 3, none⟩ = some (.int .i64 0) ∧ V.cell? ⟨wr.heap.size + 1, 4, none⟩ = some (.slice none 0 0) ∧ V.cell? ⟨wr.heap.size + 1, 5, none⟩ = some (.slice (some ⟨wr.heap.size, 0, none⟩) 1 1) ∧ V.cell? ⟨wr.heap.size + 1, 6, none⟩ = some (.int .i64 0) ∧ V.cell? ⟨wr.heap.size + 1, 7, none⟩ = some (.int .i64 0)) (by kernel_rfl) (⟨(HCL.out _ (below_drew1 W2)).1, mail8B (HCL.out _ (below_drew1 W2)).2⟩) (fun hHeld => ?_)
                refine wpAnyH_take (i := 1) (oi := _) (v := .agg #[.int .i64 1, .int .i64 0, .string ⟨#[]⟩, .int .i64 0, .slice none 0 0, .slice (some ⟨wr.heap.size, 0, none⟩) 1 1, .int .i64 0, .int .i64 0]) rfl (by kernel_rfl) (by kernel_rfl) (by kernel_rfl) (fun _ _ _ h => h) (Or.inl ⟨by rfl, ?_⟩) (by trivial) ?_
                · intro V hV
                  obtain ⟨s, s0, s1, s2, s3, s4, s5, s6, s7⟩ := hV
                  go_simp
                simp only [Act.put, List.setIfInBounds_toArray, List.set_cons_zero, List.set_cons_succ, List.getElem_toArray, List.getElem_cons_succ, List.getElem_cons_zero]
                refine wpAnyH_take (i := 0) (oi := _) (v := .slice A1 2 c1) rfl (by kernel_rfl) (by kernel_rfl) (by kernel_rfl) (fun _ _ _ h => h) (Or.inl ⟨by rfl, ?_⟩) (by trivial) ?_
                · intro w _
                  go_simp
                simp only [Act.put, List.setIfInBounds_toArray, List.set_cons_zero, List.set_cons_succ, List.getElem_toArray, List.getElem_cons_zero]
                refine wpAnyH_take (i := 3) (oi := _) (v := .int .i64 (j : Int)) rfl (by kernel_rfl) (by kernel_rfl) (by kernel_rfl) (fun _ _ _ h => h) (Or.inl ⟨by rfl, ?_⟩) (by trivial) ?_
                · intro w _
                  go_simp
                simp only [Act.put, List.setIfInBounds_toArray, List.set_cons_zero, List.set_cons_succ, List.getElem_toArray, List.getElem_cons_succ, List.getElem_cons_zero]
                refine wpAnyH_take (i := 4) (oi := _) (v := .int .i64 ((j : Int) + 1)) rfl (by kernel_rfl) (by kernel_rfl) (by kernel_rfl) (fun _ _ _ h => h) (Or.inl ⟨by rfl, ?_⟩) (by trivial) ?_
                · intro w _
                  go_simp
                  exact IntWalk.i64_in _ (by omega)
                simp only [Act.put, List.setIfInBounds_toArray, List.set_cons_zero, List.set_cons_succ, List.getElem_toArray, List.getElem_cons_succ, List.getElem_cons_zero]
                refine wpAnyH_take (i := 5) (oi := _) (v := .int .i64 (x : Int)) rfl (by kernel_rfl) (by kernel_rfl) (by kernel_rfl) (fun _ _ _ h => h) (Or.inl ⟨by rfl, ?_⟩) (by trivial) ?_
                · intro w _
                  go_simp
                simp only [Act.put, List.setIfInBounds_toArray, List.set_cons_zero, List.set_cons_succ, List.getElem_toArray, List.getElem_cons_succ, List.getElem_cons_zero]
                refine wpAnyH_take (i := 6) (oi := _) (v := .int .i64 (y : Int)) rfl (by kernel_rfl) (by kernel_rfl) (by kernel_rfl) (fun _ _ _ h => h) (Or.inl ⟨by rfl, ?_⟩) (by trivial) ?_
                · intro w _
                  go_simp
                simp only [Act.put, List.setIfInBounds_toArray, List.set_cons_zero, List.set_cons_succ, List.getElem_toArray, List.getElem_cons_succ, List.getElem_cons_zero]
                refine wpAnyH_take (i := 7) (oi := _) (v := .int .i64 mn) rfl (by kernel_rfl) (by kernel_rfl) (by kernel_rfl) (fun _ _ _ h => h) (Or.inl ⟨by rfl, ?_⟩) (by trivial) ?_
                · intro V _
                  first | (go_simp; done) | (go_simp; exact hmn _ _ _) | exact hmn _ _ _
                simp only [Act.put, List.setIfInBounds_toArray, List.set_cons_zero, List.set_cons_succ, List.getElem_toArray, List.getElem_cons_succ, List.getElem_cons_zero]
                refine wpAnyH_take (i := 8) (oi := _) (v := .bool false) rfl (by kernel_rfl) (by kernel_rfl) (by kernel_rfl) (fun _ _ _ h => h) (Or.inl ⟨by rfl, ?_⟩) (by trivial) ?_
                · intro w _
                  go_simp
                simp only [Act.put, List.setIfInBounds_toArray, List.set_cons_zero, List.set_cons_succ, List.getElem_toArray, List.getElem_cons_succ, List.getElem_cons_zero]
                refine wpAnyH_ready (rs := [2]) (by kernel_rfl) (by simp) ?_
                refine AllReadyH.cons (o := _) rfl (fun K hK => ?_) AllReadyH.nil
                go_simp
                go_wp2_with (first
                  | (go_at_call 16; refine (hH1.out _ (below_drew1 W2)).mono ?_; rintro e w8 ⟨rfl, hb⟩; have HB8 : Hid (Below W2.heap.size W2 w8) := Lib.hid (below_drop hb); clear hb)
                  | fail)
                refine hK.out _ _ (⟨(HCL.out _ HB8.out).1, mail8B (HCL.out _ HB8.out).2⟩) (fun _ => ?_)
                clear hK K
                refine wpAnyH_take (i := 9) (oi := _) (v := .bool false) rfl (by kernel_rfl) (by kernel_rfl) (by kernel_rfl) (fun _ _ _ h => h) (Or.inl ⟨by rfl, ?_⟩) (by trivial) ?_
                · intro w _
                  go_simp
                simp only [Act.put, List.setIfInBounds_toArray, List.set_cons_zero, List.set_cons_succ, List.getElem_toArray, List.getElem_cons_succ, List.getElem_cons_zero]
                refine wpAnyH_take (i := 10) (oi := _) (v := undef) rfl (by kernel_rfl) (by kernel_rfl) (by kernel_rfl) (fun _ _ _ h => h) (Or.inr ⟨by rfl, rfl⟩) (by trivial) ?_
                simp only [Act.put, List.setIfInBounds_toArray, List.set_cons_zero, List.set_cons_succ, List.getElem_toArray, List.getElem_cons_succ, List.getElem_cons_zero]
                refine wpAnyH_take (i := 11) (oi := _) (v := undef) rfl (by kernel_rfl) (by kernel_rfl) (by kernel_rfl) (fun _ _ _ h => h) (Or.inr ⟨by rfl, rfl⟩) (by trivial) ?_
                simp only [Act.put, List.setIfInBounds_toArray, List.set_cons_zero, List.set_cons_succ, List.getElem_toArray, List.getElem_cons_succ, List.getElem_cons_zero]
                refine wpAnyH_take (i := 12) (oi := _) (v := undef) rfl (by kernel_rfl) (by kernel_rfl) (by kernel_rfl) (fun _ _ _ h => h) (Or.inr ⟨by rfl, rfl⟩) (by trivial) ?_
                simp only [Act.put, List.setIfInBounds_toArray, List.set_cons_zero, List.set_cons_succ, List.getElem_toArray, List.getElem_cons_succ, List.getElem_cons_zero]
                refine wpAnyH_take (i := 13) (oi := _) (v := undef) rfl (by kernel_rfl) (by kernel_rfl) (by kernel_rfl) (fun _ _ _ h => h) (Or.inr ⟨by rfl, rfl⟩) (by trivial) ?_
                simp only [Act.put, List.setIfInBounds_toArray, List.set_cons_zero, List.set_cons_succ, List.getElem_toArray, List.getElem_cons_succ, List.getElem_cons_zero]
                refine wpAnyH_take (i := 14) (oi := _) (v := undef) rfl (by kernel_rfl) (by kernel_rfl) (by kernel_rfl) (fun _ _ _ h => h) (Or.inr ⟨by rfl, rfl⟩) (by trivial) ?_
                simp only [Act.put, List.setIfInBounds_toArray, List.set_cons_zero, List.set_cons_succ, List.getElem_toArray, List.getElem_cons_succ, List.getElem_cons_zero]
                refine wpAnyH_take (i := 15) (oi := _) (v := undef) rfl (by kernel_rfl) (by kernel_rfl) (by kernel_rfl) (fun _ _ _ h => h) (Or.inr ⟨by rfl, rfl⟩) (by trivial) ?_
                simp only [Act.put, List.setIfInBounds_toArray, List.set_cons_zero, List.set_cons_succ, List.getElem_toArray, List.getElem_cons_succ, List.getElem_cons_zero]
                refine wpAnyH_take (i := 16) (oi := _) (v := .bool (false)) rfl (by kernel_rfl) (by kernel_rfl) (by kernel_rfl) (fun _ _ _ h => h) (Or.inl ⟨by rfl, ?_⟩) (by trivial) ?_
                · intro w _
                  go_simp
                simp only [Act.put, List.setIfInBounds_toArray, List.set_cons_zero, List.set_cons_succ, List.getElem_toArray, List.getElem_cons_succ, List.getElem_cons_zero]
                refine wpAnyH_take (i := 17) (oi := _) (v := .bool false) rfl (by kernel_rfl) (by kernel_rfl) (by kernel_rfl) (fun _ _ _ h => h) (Or.inl ⟨by rfl, ?_⟩) (by trivial) ?_
                · intro w _
                  first | (go_simp; done) | (go_simp; simp; done)
                simp only [Act.put, List.setIfInBounds_toArray, List.set_cons_zero, List.set_cons_succ, List.getElem_toArray, List.getElem_cons_succ, List.getElem_cons_zero]
                refine wpAnyH_take (i := 18) (oi := _) (v := .bool false) rfl (by kernel_rfl) (by kernel_rfl) (by kernel_rfl) (fun _ _ _ h => h) (Or.inl ⟨by rfl, ?_⟩) (by trivial) ?_
                · intro w _
                  go_simp
                simp only [Act.put, List.setIfInBounds_toArray, List.set_cons_zero, List.set_cons_succ, List.getElem_toArray, List.getElem_cons_succ, List.getElem_cons_zero]
                refine wpAnyH_take (i := 19) (oi := _) (v := .slice A2 2 c2) rfl (by kernel_rfl) (by kernel_rfl) (by kernel_rfl) (fun _ _ _ h => h) (Or.inl ⟨by rfl, ?_⟩) (by trivial) ?_
                · intro w _
                  go_simp
                simp only [Act.put, List.setIfInBounds_toArray, List.set_cons_zero, List.set_cons_succ, List.getElem_toArray, List.getElem_cons_succ, List.getElem_cons_zero]
                refine wpAnyH_take (i := 20) (oi := _) (v := .agg #[.int .i64 1, .int .i64 0, .string ⟨#[]⟩, .int .i64 0, .slice none 0 0, .slice (some ⟨wr.heap.size, 0, none⟩) 1 1, .int .i64 0, .int .i64 0]) rfl (by kernel_rfl) (by kernel_rfl) (by kernel_rfl) (fun _ _ _ h => h) (Or.inl ⟨by rfl, ?_⟩) (by trivial) ?_
                · intro V hV
                  obtain ⟨s, s0, s1, s2, s3, s4, s5, s6, s7⟩ := hV
                  go_simp
                simp only [Act.put, List.setIfInBounds_toArray, List.set_cons_zero, List.set_cons_succ, List.getElem_toArray, List.getElem_cons_succ, List.getElem_cons_zero]
                refine wpAnyH_take (i := 22) (oi := _) (v := .slice (some ⟨bl, offl, none⟩) k cl) rfl (by kernel_rfl) (by kernel_rfl) (by kernel_rfl) (fun _ _ _ h => h) (Or.inl ⟨by rfl, ?_⟩) (by trivial) ?_
                · intro w _
                  go_simp
                simp only [Act.put, List.setIfInBounds_toArray, List.set_cons_zero, List.set_cons_succ, List.getElem_toArray, List.getElem_cons_succ, List.getElem_cons_zero]
                refine wpAnyH_take (i := 23) (oi := _) (v := .int .i64 (j : Int)) rfl (by kernel_rfl) (by kernel_rfl) (by kernel_rfl) (fun _ _ _ h => h) (Or.inl ⟨by rfl, ?_⟩) (by trivial) ?_
                · intro w _
                  go_simp
                simp only [Act.put, List.setIfInBounds_toArray, List.set_cons_zero, List.set_cons_succ, List.getElem_toArray, List.getElem_cons_succ, List.getElem_cons_zero]
                refine wpAnyH_take (i := 24) (oi := _) (v := .pointer (some ⟨bl, offl + j, none⟩)) rfl (by kernel_rfl) (by kernel_rfl) (by kernel_rfl) (fun _ _ _ h => h) (Or.inl ⟨by rfl, ?_⟩) (by trivial) ?_
                · intro w _
                  go_simp
                simp only [Act.put, List.setIfInBounds_toArray, List.set_cons_zero, List.set_cons_succ, List.getElem_toArray, List.getElem_cons_succ, List.getElem_cons_zero]
                refine wpAnyH_take (i := 25) (oi := _) (v := .int .i64 u) rfl (by kernel_rfl) (by kernel_rfl) (by kernel_rfl) (fun _ _ _ h => h) (Or.inl ⟨by rfl, ?_⟩) (by trivial) ?_
                · intro V hV
                  obtain ⟨s, s0, s1, s2, s3, s4, s5, s6, s7⟩ := hV
                  go_simp
                simp only [Act.put, List.setIfInBounds_toArray, List.set_cons_zero, List.set_cons_succ, List.getElem_toArray, List.getElem_cons_succ, List.getElem_cons_zero]
                refine wpAnyH_take (i := 26) (oi := _) (v := .int .i64 (x : Int)) rfl (by kernel_rfl) (by kernel_rfl) (by kernel_rfl) (fun _ _ _ h => h) (Or.inl ⟨by rfl, ?_⟩) (by trivial) ?_
                · intro w _
                  go_simp
                simp only [Act.put, List.setIfInBounds_toArray, List.set_cons_zero, List.set_cons_succ, List.getElem_toArray, List.getElem_cons_succ, List.getElem_cons_zero]
                refine wpAnyH_take (i := 27) (oi := _) (v := .int .i64 (y : Int)) rfl (by kernel_rfl) (by kernel_rfl) (by kernel_rfl) (fun _ _ _ h => h) (Or.inl ⟨by rfl, ?_⟩) (by trivial) ?_
                · intro w _
                  go_simp
                simp only [Act.put, List.setIfInBounds_toArray, List.set_cons_zero, List.set_cons_succ, List.getElem_toArray, List.getElem_cons_succ, List.getElem_cons_zero]
                refine wpAnyH_take (i := 28) (oi := _) (v := .int .i64 mn) rfl (by kernel_rfl) (by kernel_rfl) (by kernel_rfl) (fun _ _ _ h => h) (Or.inl ⟨by rfl, ?_⟩) (by trivial) ?_
                · intro V _
                  first | (go_simp; done) | (go_simp; exact hmn _ _ _) | exact hmn _ _ _
                simp only [Act.put, List.setIfInBounds_toArray, List.set_cons_zero, List.set_cons_succ, List.getElem_toArray, List.getElem_cons_succ, List.getElem_cons_zero]
                refine wpAnyH_take (i := 29) (oi := _) (v := .bool false) rfl (by kernel_rfl) (by kernel_rfl) (by kernel_rfl) (fun _ _ _ h => h) (Or.inl ⟨by rfl, ?_⟩) (by trivial) ?_
                · intro w _
                  go_simp
                simp only [Act.put, List.setIfInBounds_toArray, List.set_cons_zero, List.set_cons_succ, List.getElem_toArray, List.getElem_cons_succ, List.getElem_cons_zero]
                refine wpAnyH_ready (rs := [21]) (by kernel_rfl) (by simp) ?_
                refine AllReadyH.cons (o := _) rfl (fun K hK => ?_) AllReadyH.nil
                go_simp
                go_wp2_with (first
                  | (go_at_call 16; refine (hH2.out _ HB8.out).mono ?_; rintro e w9 ⟨rfl, hb⟩; have HB9 := Lib.hid (below_then HB8.out hb); clear hb)
                  | fail)
                refine hK.out _ _ (⟨(HCL.out _ HB9.out).1, mail8B (HCL.out _ HB9.out).2⟩) (fun _ => ?_)
                clear hK K
                refine wpAnyH_take (i := 30) (oi := _) (v := .bool false) rfl (by kernel_rfl) (by kernel_rfl) (by kernel_rfl) (fun _ _ _ h => h) (Or.inl ⟨by rfl, ?_⟩) (by trivial) ?_
                · intro w _
                  go_simp
                simp only [Act.put, List.setIfInBounds_toArray, List.set_cons_zero, List.set_cons_succ, List.getElem_toArray, List.getElem_cons_succ, List.getElem_cons_zero]
                refine wpAnyH_take (i := 31) (oi := _) (v := undef) rfl (by kernel_rfl) (by kernel_rfl) (by kernel_rfl) (fun _ _ _ h => h) (Or.inr ⟨by rfl, rfl⟩) (by trivial) ?_
                simp only [Act.put, List.setIfInBounds_toArray, List.set_cons_zero, List.set_cons_succ, List.getElem_toArray, List.getElem_cons_succ, List.getElem_cons_zero]
                refine wpAnyH_take (i := 32) (oi := _) (v := undef) rfl (by kernel_rfl) (by kernel_rfl) (by kernel_rfl) (fun _ _ _ h => h) (Or.inr ⟨by rfl, rfl⟩) (by trivial) ?_
                simp only [Act.put, List.setIfInBounds_toArray, List.set_cons_zero, List.set_cons_succ, List.getElem_toArray, List.getElem_cons_succ, List.getElem_cons_zero]
                refine wpAnyH_take (i := 33) (oi := _) (v := undef) rfl (by kernel_rfl) (by kernel_rfl) (by kernel_rfl) (fun _ _ _ h => h) (Or.inr ⟨by rfl, rfl⟩) (by trivial) ?_
                simp only [Act.put, List.setIfInBounds_toArray, List.set_cons_zero, List.set_cons_succ, List.getElem_toArray, List.getElem_cons_succ, List.getElem_cons_zero]
                refine wpAnyH_take (i := 34) (oi := _) (v := undef) rfl (by kernel_rfl) (by kernel_rfl) (by kernel_rfl) (fun _ _ _ h => h) (Or.inr ⟨by rfl, rfl⟩) (by trivial) ?_
                simp only [Act.put, List.setIfInBounds_toArray, List.set_cons_zero, List.set_cons_succ, List.getElem_toArray, List.getElem_cons_succ, List.getElem_cons_zero]
                refine wpAnyH_take (i := 35) (oi := _) (v := undef) rfl (by kernel_rfl) (by kernel_rfl) (by kernel_rfl) (fun _ _ _ h => h) (Or.inr ⟨by rfl, rfl⟩) (by trivial) ?_
                simp only [Act.put, List.setIfInBounds_toArray, List.set_cons_zero, List.set_cons_succ, List.getElem_toArray, List.getElem_cons_succ, List.getElem_cons_zero]
                refine wpAnyH_take (i := 36) (oi := _) (v := undef) rfl (by kernel_rfl) (by kernel_rfl) (by kernel_rfl) (fun _ _ _ h => h) (Or.inr ⟨by rfl, rfl⟩) (by trivial) ?_
                simp only [Act.put, List.setIfInBounds_toArray, List.set_cons_zero, List.set_cons_succ, List.getElem_toArray, List.getElem_cons_succ, List.getElem_cons_zero]
                refine wpAnyH_take (i := 37) (oi := _) (v := undef) rfl (by kernel_rfl) (by kernel_rfl) (by kernel_rfl) (fun _ _ _ h => h) (Or.inr ⟨by rfl, rfl⟩) (by trivial) ?_
                simp only [Act.put, List.setIfInBounds_toArray, List.set_cons_zero, List.set_cons_succ, List.getElem_toArray, List.getElem_cons_succ, List.getElem_cons_zero]
                refine wpAnyH_take (i := 38) (oi := _) (v := undef) rfl (by kernel_rfl) (by kernel_rfl) (by kernel_rfl) (fun _ _ _ h => h) (Or.inr ⟨by rfl, rfl⟩) (by trivial) ?_
                simp only [Act.put, List.setIfInBounds_toArray, List.set_cons_zero, List.set_cons_succ, List.getElem_toArray, List.getElem_cons_succ, List.getElem_cons_zero]
                refine wpAnyH_take (i := 39) (oi := _) (v := .bool (false)) rfl (by kernel_rfl) (by kernel_rfl) (by kernel_rfl) (fun _ _ _ h => h) (Or.inl ⟨by rfl, ?_⟩) (by trivial) ?_
                · intro w _
                  go_simp
                simp only [Act.put, List.setIfInBounds_toArray, List.set_cons_zero, List.set_cons_succ, List.getElem_toArray, List.getElem_cons_succ, List.getElem_cons_zero]
                refine wpAnyH_take (i := 40) (oi := _) (v := .bool false) rfl (by kernel_rfl) (by kernel_rfl) (by kernel_rfl) (fun _ _ _ h => h) (Or.inl ⟨by rfl, ?_⟩) (by trivial) ?_
                · intro w _
                  first | (go_simp; done) | (go_simp; simp; done)
                simp only [Act.put, List.setIfInBounds_toArray, List.set_cons_zero, List.set_cons_succ, List.getElem_toArray, List.getElem_cons_succ, List.getElem_cons_zero]
                refine wpAnyH_take (i := 41) (oi := _) (v := .bool false) rfl (by kernel_rfl) (by kernel_rfl) (by kernel_rfl) (fun _ _ _ h => h) (Or.inl ⟨by rfl, ?_⟩) (by trivial) ?_
                · intro w _
                  go_simp
                simp only [Act.put, List.setIfInBounds_toArray, List.set_cons_zero, List.set_cons_succ, List.getElem_toArray, List.getElem_cons_succ, List.getElem_cons_zero]
                refine wpAnyH_done (by kernel_rfl) ?_ _
                all_goals
                  go_wp2
                  have HQ9 := Lib.hid (below_then HB2.out HB9.out)
                  have HR1 := Lib.hid (HG1.out.below HQ9.out)
                  have HR2 := Lib.hid (HG2.out.below HQ9.out)
                  have HR0 := Lib.hid (below_then HQ.out HQ9.out)
                  refine ⟨?_, by simp [intOf]; omega⟩
                  first | exact ⟨j + 1, by omega, by go_num, HR0, HR1, HR2⟩ | ((repeat apply Exists.intro); exact ⟨⟨j + 1, by omega, by go_num, HR0, HR1, HR2⟩, rfl⟩)
              · have e1 : (decide (mn ≤ (j : Int) + 1) && decide ((j : Int) + 1 ≤ mx)) = false := by rw [decide_eq_false (by omega)]; rfl
                have e2 : (decide (mn ≤ u) && decide (u ≤ mx)) = (decide (u ≤ mx)) := by rw [decide_eq_true (by omega)]; rfl
                rw [e1] at hH1
                rw [e2] at hH2
                clear e1 e2
                refine wp_region_held_drew (S := fun V => V.cell? ⟨bl, offl + j, none⟩ = some (.int .i64 u) ∧ V.cell? ⟨wr.heap.size + 1, 0, none⟩ = some (.int .i64 1) ∧ V.cell? ⟨wr.heap.size + 1, 1, none⟩ = some (.int .i64 0) ∧ V.cell? ⟨wr.heap.size + 1, 2, none⟩ = some (.string ⟨#[]⟩) ∧ V.cell? ⟨wr.heap.size + 1, 3, none⟩ = some (.int .i64 0) ∧ V.cell? ⟨wr.heap.size + 1, 4, none⟩ = some (.slice none 0 0) ∧ V.cell? ⟨wr.heap.size + 1, 5, none⟩ = some (.slice (some ⟨wr.heap.size, 0, none⟩) 1 1) ∧ V.cell? ⟨wr.heap.size + 1, 6, none⟩ = some (.int .i64 0) ∧ V.cell? ⟨wr.heap.size + 1, 7, none⟩ = some (.int .i64 0)) (by kernel_rfl) (⟨(HCL.out _ (below_drew1 W2)).1, mail8B (HCL.out _ (below_drew1 W2)).2⟩) (fun hHeld => ?_)
                refine wpAnyH_take (i := 1) (oi := _) (v := .agg #[.int .i64 1, .int .i64 0, .string ⟨#[]⟩, .int .i64 0, .slice none 0 0, .slice (some ⟨wr.heap.size, 0, none⟩) 1 1, .int .i64 0, .int .i64 0]) rfl (by kernel_rfl) (by kernel_rfl) (by kernel_rfl) (fun _ _ _ h => h) (Or.inl ⟨by rfl, ?_⟩) (by trivial) ?_
                · intro V hV
                  obtain ⟨s, s0, s1, s2, s3, s4, s5, s6, s7⟩ := hV
                  go_simp
                simp only [Act.put, List.setIfInBounds_toArray, List.set_cons_zero, List.set_cons_succ, List.getElem_toArray, List.getElem_cons_succ, List.getElem_cons_zero]
                refine wpAnyH_take (i := 0) (oi := _) (v := .slice A1 2 c1) rfl (by kernel_rfl) (by kernel_rfl) (by kernel_rfl) (fun _ _ _ h => h) (Or.inl ⟨by rfl, ?_⟩) (by trivial) ?_
                · intro w _
                  go_simp
                simp only [Act.put, List.setIfInBounds_toArray, List.set_cons_zero, List.set_cons_succ, List.getElem_toArray, List.getElem_cons_zero]
                refine wpAnyH_take (i := 3) (oi := _) (v := .int .i64 (j : Int)) rfl (by kernel_rfl) (by kernel_rfl) (by kernel_rfl) (fun _ _ _ h => h) (Or.inl ⟨by rfl, ?_⟩) (by trivial) ?_
                · intro w _
                  go_simp
                simp only [Act.put, List.setIfInBounds_toArray, List.set_cons_zero, List.set_cons_succ, List.getElem_toArray, List.getElem_cons_succ, List.getElem_cons_zero]
                refine wpAnyH_take (i := 4) (oi := _) (v := .int .i64 ((j : Int) + 1)) rfl (by kernel_rfl) (by kernel_rfl) (by kernel_rfl) (fun _ _ _ h => h) (Or.inl ⟨by rfl, ?_⟩) (by trivial) ?_
                · intro w _
                  go_simp
                  exact IntWalk.i64_in _ (by omega)
                simp only [Act.put, List.setIfInBounds_toArray, List.set_cons_zero, List.set_cons_succ, List.getElem_toArray, List.getElem_cons_succ, List.getElem_cons_zero]
                refine wpAnyH_take (i := 5) (oi := _) (v := .int .i64 (x : Int)) rfl (by kernel_rfl) (by kernel_rfl) (by kernel_rfl) (fun _ _ _ h => h) (Or.inl ⟨by rfl, ?_⟩) (by trivial) ?_
                · intro w _
                  go_simp
                simp only [Act.put, List.setIfInBounds_toArray, List.set_cons_zero, List.set_cons_succ, List.getElem_toArray, List.getElem_cons_succ, List.getElem_cons_zero]
                refine wpAnyH_take (i := 6) (oi := _) (v := .int .i64 (y : Int)) rfl (by kernel_rfl) (by kernel_rfl) (by kernel_rfl) (fun _ _ _ h => h) (Or.inl ⟨by rfl, ?_⟩) (by trivial) ?_
                · intro w _
                  go_simp
                simp only [Act.put, List.setIfInBounds_toArray, List.set_cons_zero, List.set_cons_succ, List.getElem_toArray, List.getElem_cons_succ, List.getElem_cons_zero]
                refine wpAnyH_take (i := 7) (oi := _) (v := .int .i64 mn) rfl (by kernel_rfl) (by kernel_rfl) (by kernel_rfl) (fun _ _ _ h => h) (Or.inl ⟨by rfl, ?_⟩) (by trivial) ?_
                · intro V _
                  first | (go_simp; done) | (go_simp; exact hmn _ _ _) | exact hmn _ _ _
                simp only [Act.put, List.setIfInBounds_toArray, List.set_cons_zero, List.set_cons_succ, List.getElem_toArray, List.getElem_cons_succ, List.getElem_cons_zero]
                refine wpAnyH_take (i := 8) (oi := _) (v := .bool false) rfl (by kernel_rfl) (by kernel_rfl) (by kernel_rfl) (fun _ _ _ h => h) (Or.inl ⟨by rfl, ?_⟩) (by trivial) ?_
                · intro w _
                  go_simp
                simp only [Act.put, List.setIfInBounds_toArray, List.set_cons_zero, List.set_cons_succ, List.getElem_toArray, List.getElem_cons_succ, List.getElem_cons_zero]
                refine wpAnyH_ready (rs := [2]) (by kernel_rfl) (by simp) ?_
                refine AllReadyH.cons (o := _) rfl (fun K hK => ?_) AllReadyH.nil
                go_simp
                go_wp2_with (first
                  | (go_at_call 16; refine (hH1.out _ (below_drew1 W2)).mono ?_; rintro e w8 ⟨rfl, hb⟩; have HB8 : Hid (Below W2.heap.size W2 w8) := Lib.hid (below_drop hb); clear hb)
                  | fail)
                refine hK.out _ _ (⟨(HCL.out _ HB8.out).1, mail8B (HCL.out _ HB8.out).2⟩) (fun _ => ?_)
                clear hK K
                refine wpAnyH_take (i := 9) (oi := _) (v := .bool false) rfl (by kernel_rfl) (by kernel_rfl) (by kernel_rfl) (fun _ _ _ h => h) (Or.inl ⟨by rfl, ?_⟩) (by trivial) ?_
                · intro w _
                  go_simp
                simp only [Act.put, List.setIfInBounds_toArray, List.set_cons_zero, List.set_cons_succ, List.getElem_toArray, List.getElem_cons_succ, List.getElem_cons_zero]
                refine wpAnyH_take (i := 10) (oi := _) (v := undef) rfl (by kernel_rfl) (by kernel_rfl) (by kernel_rfl) (fun _ _ _ h => h) (Or.inr ⟨by rfl, rfl⟩) (by trivial) ?_
                simp only [Act.put, List.setIfInBounds_toArray, List.set_cons_zero, List.set_cons_succ, List.getElem_toArray, List.getElem_cons_succ, List.getElem_cons_zero]
                refine wpAnyH_take (i := 11) (oi := _) (v := undef) rfl (by kernel_rfl) (by kernel_rfl) (by kernel_rfl) (fun _ _ _ h => h) (Or.inr ⟨by rfl, rfl⟩) (by trivial) ?_
                simp only [Act.put, List.setIfInBounds_toArray, List.set_cons_zero, List.set_cons_succ, List.getElem_toArray, List.getElem_cons_succ, List.getElem_cons_zero]
                refine wpAnyH_take (i := 12) (oi := _) (v := undef) rfl (by kernel_rfl) (by kernel_rfl) (by kernel_rfl) (fun _ _ _ h => h) (Or.inr ⟨by rfl, rfl⟩) (by trivial) ?_
                simp only [Act.put, List.setIfInBounds_toArray, List.set_cons_zero, List.set_cons_succ, List.getElem_toArray, List.getElem_cons_succ, List.getElem_cons_zero]
                refine wpAnyH_take (i := 13) (oi := _) (v := undef) rfl (by kernel_rfl) (by kernel_rfl) (by kernel_rfl) (fun _ _ _ h => h) (Or.inr ⟨by rfl, rfl⟩) (by trivial) ?_
                simp only [Act.put, List.setIfInBounds_toArray, List.set_cons_zero, List.set_cons_succ, List.getElem_toArray, List.getElem_cons_succ, List.getElem_cons_zero]
                refine wpAnyH_take (i := 14) (oi := _) (v := undef) rfl (by kernel_rfl) (by kernel_rfl) (by kernel_rfl) (fun _ _ _ h => h) (Or.inr ⟨by rfl, rfl⟩) (by trivial) ?_
                simp only [Act.put, List.setIfInBounds_toArray, List.set_cons_zero, List.set_cons_succ, List.getElem_toArray, List.getElem_cons_succ, List.getElem_cons_zero]
                refine wpAnyH_take (i := 15) (oi := _) (v := undef) rfl (by kernel_rfl) (by kernel_rfl) (by kernel_rfl) (fun _ _ _ h => h) (Or.inr ⟨by rfl, rfl⟩) (by trivial) ?_
                simp only [Act.put, List.setIfInBounds_toArray, List.set_cons_zero, List.set_cons_succ, List.getElem_toArray, List.getElem_cons_succ, List.getElem_cons_zero]
                refine wpAnyH_take (i := 16) (oi := _) (v := .bool (false)) rfl (by kernel_rfl) (by kernel_rfl) (by kernel_rfl) (fun _ _ _ h => h) (Or.inl ⟨by rfl, ?_⟩) (by trivial) ?_
                · intro w _
                  go_simp
                simp only [Act.put, List.setIfInBounds_toArray, List.set_cons_zero, List.set_cons_succ, List.getElem_toArray, List.getElem_cons_succ, List.getElem_cons_zero]
                refine wpAnyH_take (i := 17) (oi := _) (v := .bool false) rfl (by kernel_rfl) (by kernel_rfl) (by kernel_rfl) (fun _ _ _ h => h) (Or.inl ⟨by rfl, ?_⟩) (by trivial) ?_
                · intro w _
                  first | (go_simp; done) | (go_simp; simp; done)
                simp only [Act.put, List.setIfInBounds_toArray, List.set_cons_zero, List.set_cons_succ, List.getElem_toArray, List.getElem_cons_succ, List.getElem_cons_zero]
                refine wpAnyH_take (i := 18) (oi := _) (v := .bool false) rfl (by kernel_rfl) (by kernel_rfl) (by kernel_rfl) (fun _ _ _ h => h) (Or.inl ⟨by rfl, ?_⟩) (by trivial) ?_
                · intro w _
                  go_simp
                simp only [Act.put, List.setIfInBounds_toArray, List.set_cons_zero, List.set_cons_succ, List.getElem_toArray, List.getElem_cons_succ, List.getElem_cons_zero]
                refine wpAnyH_take (i := 19) (oi := _) (v := .slice A2 2 c2) rfl (by kernel_rfl) (by kernel_rfl) (by kernel_rfl) (fun _ _ _ h => h) (Or.inl ⟨by rfl, ?_⟩) (by trivial) ?_
                · intro w _
                  go_simp
                simp only [Act.put, List.setIfInBounds_toArray, List.set_cons_zero, List.set_cons_succ, List.getElem_toArray, List.getElem_cons_succ, List.getElem_cons_zero]
                refine wpAnyH_take (i := 20) (oi := _) (v := .agg #[.int .i64 1, .int .i64 0, .string ⟨#[]⟩, .int .i64 0, .slice none 0 0, .slice (some ⟨wr.heap.size, 0, none⟩) 1 1, .int .i64 0, .int .i64 0]) rfl (by kernel_rfl) (by kernel_rfl) (by kernel_rfl) (fun _ _ _ h => h) (Or.inl ⟨by rfl, ?_⟩) (by trivial) ?_
                · intro V hV
                  obtain ⟨s, s0, s1, s2, s3, s4, s5, s6, s7⟩ := hV
                  go_simp
                simp only [Act.put, List.setIfInBounds_toArray, List.set_cons_zero, List.set_cons_succ, List.getElem_toArray, List.getElem_cons_succ, List.getElem_cons_zero]
                refine wpAnyH_take (i := 22) (oi := _) (v := .slice (some ⟨bl, offl, none⟩) k cl) rfl (by kernel_rfl) (by kernel_rfl) (by kernel_rfl) (fun _ _ _ h => h) (Or.inl ⟨by rfl, ?_⟩) (by trivial) ?_
                · intro w _
                  go_simp
                simp only [Act.put, List.setIfInBounds_toArray, List.set_cons_zero, List.set_cons_succ, List.getElem_toArray, List.getElem_cons_succ, List.getElem_cons_zero]
                refine wpAnyH_take (i := 23) (oi := _) (v := .int .i64 (j : Int)) rfl (by kernel_rfl) (by kernel_rfl) (by kernel_rfl) (fun _ _ _ h => h) (Or.inl ⟨by rfl, ?_⟩) (by trivial) ?_
                · intro w _
                  go_simp
                simp only [Act.put, List.setIfInBounds_toArray, List.set_cons_zero, List.set_cons_succ, List.getElem_toArray, List.getElem_cons_succ, List.getElem_cons_zero]
                refine wpAnyH_take (i := 24) (oi := _) (v := .pointer (some ⟨bl, offl + j, none⟩)) rfl (by kernel_rfl) (by kernel_rfl) (by kernel_rfl) (fun _ _ _ h => h) (Or.inl ⟨by rfl, ?_⟩) (by trivial) ?_
                · intro w _
                  go_simp
                simp only [Act.put, List.setIfInBounds_toArray, List.set_cons_zero, List.set_cons_succ, List.getElem_toArray, List.getElem_cons_succ, List.getElem_cons_zero]
                refine wpAnyH_take (i := 25) (oi := _) (v := .int .i64 u) rfl (by kernel_rfl) (by kernel_rfl) (by kernel_rfl) (fun _ _ _ h => h) (Or.inl ⟨by rfl, ?_⟩) (by trivial) ?_
                · intro V hV
                  obtain ⟨s, s0, s1, s2, s3, s4, s5, s6, s7⟩ := hV
                  go_simp
                simp only [Act.put, List.setIfInBounds_toArray, List.set_cons_zero, List.set_cons_succ, List.getElem_toArray, List.getElem_cons_succ, List.getElem_cons_zero]
                refine wpAnyH_take (i := 26) (oi := _) (v := .int .i64 (x : Int)) rfl (by kernel_rfl) (by kernel_rfl) (by kernel_rfl) (fun _ _ _ h => h) (Or.inl ⟨by rfl, ?_⟩) (by trivial) ?_
                · intro w _
                  go_simp
                simp only [Act.put, List.setIfInBounds_toArray, List.set_cons_zero, List.set_cons_succ, List.getElem_toArray, List.getElem_cons_succ, List.getElem_cons_zero]
                refine wpAnyH_take (i := 27) (oi := _) (v := .int .i64 (y : Int)) rfl (by kernel_rfl) (by kernel_rfl) (by kernel_rfl) (fun _ _ _ h => h) (Or.inl ⟨by rfl, ?_⟩) (by trivial) ?_
                · intro w _
                  go_simp
                simp only [Act.put, List.setIfInBounds_toArray, List.set_cons_zero, List.set_cons_succ, List.getElem_toArray, List.getElem_cons_succ, List.getElem_cons_zero]
                refine wpAnyH_take (i := 28) (oi := _) (v := .int .i64 mn) rfl (by kernel_rfl) (by kernel_rfl) (by kernel_rfl) (fun _ _ _ h => h) (Or.inl ⟨by rfl, ?_⟩) (by trivial) ?_
                · intro V _
                  first | (go_simp; done) | (go_simp; exact hmn _ _ _) | exact hmn _ _ _
                simp only [Act.put, List.setIfInBounds_toArray, List.set_cons_zero, List.set_cons_succ, List.getElem_toArray, List.getElem_cons_succ, List.getElem_cons_zero]
                refine wpAnyH_take (i := 29) (oi := _) (v := .bool true) rfl (by kernel_rfl) (by kernel_rfl) (by kernel_rfl) (fun _ _ _ h => h) (Or.inl ⟨by rfl, ?_⟩) (by trivial) ?_
                · intro w _
                  go_simp
                simp only [Act.put, List.setIfInBounds_toArray, List.set_cons_zero, List.set_cons_succ, List.getElem_toArray, List.getElem_cons_succ, List.getElem_cons_zero]
                refine wpAnyH_ready (rs := [21]) (by kernel_rfl) (by simp) ?_
                refine AllReadyH.cons (o := _) rfl (fun K hK => ?_) AllReadyH.nil
                go_simp
                go_wp2_with (first
                  | (go_at_call 16; refine (hH2.out _ HB8.out).mono ?_; rintro e w9 ⟨rfl, hb⟩; have HB9 := Lib.hid (below_then HB8.out hb); clear hb)
                  | fail)
                refine hK.out _ _ (⟨(HCL.out _ HB9.out).1, mail8B (HCL.out _ HB9.out).2⟩) (fun _ => ?_)
                clear hK K
                refine wpAnyH_take (i := 30) (oi := _) (v := .bool true) rfl (by kernel_rfl) (by kernel_rfl) (by kernel_rfl) (fun _ _ _ h => h) (Or.inl ⟨by rfl, ?_⟩) (by trivial) ?_
                · intro w _
                  go_simp
                simp only [Act.put, List.setIfInBounds_toArray, List.set_cons_zero, List.set_cons_succ, List.getElem_toArray, List.getElem_cons_succ, List.getElem_cons_zero]
                refine wpAnyH_take (i := 31) (oi := _) (v := .slice (some ⟨bl, offl, none⟩) k cl) rfl (by kernel_rfl) (by kernel_rfl) (by kernel_rfl) (fun _ _ _ h => h) (Or.inl ⟨by rfl, ?_⟩) (by trivial) ?_
                · intro w _
                  go_simp
                simp only [Act.put, List.setIfInBounds_toArray, List.set_cons_zero, List.set_cons_succ, List.getElem_toArray, List.getElem_cons_succ, List.getElem_cons_zero]
                refine wpAnyH_take (i := 32) (oi := _) (v := .int .i64 (j : Int)) rfl (by kernel_rfl) (by kernel_rfl) (by kernel_rfl) (fun _ _ _ h => h) (Or.inl ⟨by rfl, ?_⟩) (by trivial) ?_
                · intro w _
                  go_simp
                simp only [Act.put, List.setIfInBounds_toArray, List.set_cons_zero, List.set_cons_succ, List.getElem_toArray, List.getElem_cons_succ, List.getElem_cons_zero]
                refine wpAnyH_take (i := 33) (oi := _) (v := .pointer (some ⟨bl, offl + j, none⟩)) rfl (by kernel_rfl) (by kernel_rfl) (by kernel_rfl) (fun _ _ _ h => h) (Or.inl ⟨by rfl, ?_⟩) (by trivial) ?_
                · intro w _
                  go_simp
                simp only [Act.put, List.setIfInBounds_toArray, List.set_cons_zero, List.set_cons_succ, List.getElem_toArray, List.getElem_cons_succ, List.getElem_cons_zero]
                refine wpAnyH_take (i := 34) (oi := _) (v := .int .i64 u) rfl (by kernel_rfl) (by kernel_rfl) (by kernel_rfl) (fun _ _ _ h => h) (Or.inl ⟨by rfl, ?_⟩) (by trivial) ?_
                · intro V hV
                  obtain ⟨s, s0, s1, s2, s3, s4, s5, s6, s7⟩ := hV
                  go_simp
                simp only [Act.put, List.setIfInBounds_toArray, List.set_cons_zero, List.set_cons_succ, List.getElem_toArray, List.getElem_cons_succ, List.getElem_cons_zero]
                refine wpAnyH_take (i := 35) (oi := _) (v := .int .i64 (x : Int)) rfl (by kernel_rfl) (by kernel_rfl) (by kernel_rfl) (fun _ _ _ h => h) (Or.inl ⟨by rfl, ?_⟩) (by trivial) ?_
                · intro w _
                  go_simp
                simp only [Act.put, List.setIfInBounds_toArray, List.set_cons_zero, List.set_cons_succ, List.getElem_toArray, List.getElem_cons_succ, List.getElem_cons_zero]
                refine wpAnyH_take (i := 36) (oi := _) (v := .int .i64 (y : Int)) rfl (by kernel_rfl) (by kernel_rfl) (by kernel_rfl) (fun _ _ _ h => h) (Or.inl ⟨by rfl, ?_⟩) (by trivial) ?_
                · intro w _
                  go_simp
                simp only [Act.put, List.setIfInBounds_toArray, List.set_cons_zero, List.set_cons_succ, List.getElem_toArray, List.getElem_cons_succ, List.getElem_cons_zero]
                refine wpAnyH_take (i := 37) (oi := _) (v := .int .i64 mx) rfl (by kernel_rfl) (by kernel_rfl) (by kernel_rfl) (fun _ _ _ h => h) (Or.inl ⟨by rfl, ?_⟩) (by trivial) ?_
                · intro V _
                  first | (go_simp; done) | (go_simp; exact hmx _ _ _) | exact hmx _ _ _
                simp only [Act.put, List.setIfInBounds_toArray, List.set_cons_zero, List.set_cons_succ, List.getElem_toArray, List.getElem_cons_succ, List.getElem_cons_zero]
                refine wpAnyH_take (i := 38) (oi := _) (v := .bool (decide (u ≤ mx))) rfl (by kernel_rfl) (by kernel_rfl) (by kernel_rfl) (fun _ _ _ h => h) (Or.inl ⟨by rfl, ?_⟩) (by trivial) ?_
                · intro w _
                  go_simp
                simp only [Act.put, List.setIfInBounds_toArray, List.set_cons_zero, List.set_cons_succ, List.getElem_toArray, List.getElem_cons_succ, List.getElem_cons_zero]
                refine wpAnyH_take (i := 39) (oi := _) (v := .bool (decide (u ≤ mx))) rfl (by kernel_rfl) (by kernel_rfl) (by kernel_rfl) (fun _ _ _ h => h) (Or.inl ⟨by rfl, ?_⟩) (by trivial) ?_
                · intro w _
                  go_simp
                simp only [Act.put, List.setIfInBounds_toArray, List.set_cons_zero, List.set_cons_succ, List.getElem_toArray, List.getElem_cons_succ, List.getElem_cons_zero]
                refine wpAnyH_take (i := 40) (oi := _) (v := .bool false) rfl (by kernel_rfl) (by kernel_rfl) (by kernel_rfl) (fun _ _ _ h => h) (Or.inl ⟨by rfl, ?_⟩) (by trivial) ?_
                · intro w _
                  first | (go_simp; done) | (go_simp; simp; done)
                simp only [Act.put, List.setIfInBounds_toArray, List.set_cons_zero, List.set_cons_succ, List.getElem_toArray, List.getElem_cons_succ, List.getElem_cons_zero]
                refine wpAnyH_take (i := 41) (oi := _) (v := .bool false) rfl (by kernel_rfl) (by kernel_rfl) (by kernel_rfl) (fun _ _ _ h => h) (Or.inl ⟨by rfl, ?_⟩) (by trivial) ?_
                · intro w _
                  go_simp
                simp only [Act.put, List.setIfInBounds_toArray, List.set_cons_zero, List.set_cons_succ, List.getElem_toArray, List.getElem_cons_succ, List.getElem_cons_zero]
                refine wpAnyH_done (by kernel_rfl) ?_ _
                all_goals
                  go_wp2
                  have HQ9 := Lib.hid (below_then HB2.out HB9.out)
                  have HR1 := Lib.hid (HG1.out.below HQ9.out)
                  have HR2 := Lib.hid (HG2.out.below HQ9.out)
                  have HR0 := Lib.hid (below_then HQ.out HQ9.out)
                  refine ⟨?_, by simp [intOf]; omega⟩
                  first | exact ⟨j + 1, by omega, by go_num, HR0, HR1, HR2⟩ | ((repeat apply Exists.intro); exact ⟨⟨j + 1, by omega, by go_num, HR0, HR1, HR2⟩, rfl⟩)
              · have e1 : (decide (mn ≤ (j : Int) + 1) && decide ((j : Int) + 1 ≤ mx)) = (decide ((j : Int) + 1 ≤ mx)) := by rw [decide_eq_true (by omega)]; rfl
                have e2 : (decide (mn ≤ u) && decide (u ≤ mx)) = false := by rw [decide_eq_false (by omega)]; rfl
                rw [e1] at hH1
                rw [e2] at hH2
                clear e1 e2
                refine wp_region_held_drew (S := fun V => V.cell? ⟨bl, offl + j, none⟩ = some (.int .i64 u) ∧ V.cell? ⟨wr.heap.size + 1, 0, none⟩ = some (.int .i64 1) ∧ V.cell? ⟨wr.heap.size + 1, 1, none⟩ = some (.int .i64 0) ∧ V.cell? ⟨wr.heap.size + 1, 2, none⟩ = some (.string ⟨#[]⟩) ∧ V.cell? ⟨wr.heap.size + 1, 3, none⟩ = some (.int .i64 0) ∧ V.cell? ⟨wr.heap.size + 1, 4, none⟩ = some (.slice none 0 0) ∧ V.cell? ⟨wr.heap.size + 1, 5, none⟩ = some (.slice (some ⟨wr.heap.size, 0, none⟩) 1 1) ∧ V.cell? ⟨wr.heap.size + 1, 6, none⟩ = some (.int .i64 0) ∧ V.cell? ⟨wr.heap.size + 1, 7, none⟩ = some (.int .i64 0)) (by kernel_rfl) (⟨(HCL.out _ (below_drew1 W2)).1, mail8B (HCL.out _ (below_drew1 W2)).2⟩) (fun hHeld => ?_)
                refine wpAnyH_take (i := 1) (oi := _) (v := .agg #[.int .i64 1, .int .i64 0, .string ⟨#[]⟩, .int .i64 0, .slice none 0 0, .slice (some ⟨wr.heap.size, 0, none⟩) 1 1, .int .i64 0, .int .i64 0]) rfl (by kernel_rfl) (by kernel_rfl) (by kernel_rfl) (fun _ _ _ h => h) (Or.inl ⟨by rfl, ?_⟩) (by trivial) ?_
                · intro V hV
                  obtain ⟨s, s0, s1, s2, s3, s4, s5, s6, s7⟩ := hV
                  go_simp
                simp only [Act.put, List.setIfInBounds_toArray, List.set_cons_zero, List.set_cons_succ, List.getElem_toArray, List.getElem_cons_succ, List.getElem_cons_zero]
                refine wpAnyH_take (i := 0) (oi := _) (v := .slice A1 2 c1) rfl (by kernel_rfl) (by kernel_rfl) (by kernel_rfl) (fun _ _ _ h => h) (Or.inl ⟨by rfl, ?_⟩) (by trivial) ?_
                · intro w _
                  go_simp
                simp only [Act.put, List.setIfInBounds_toArray, List.set_cons_zero, List.set_cons_succ, List.getElem_toArray, List.getElem_cons_zero]
                refine wpAnyH_take (i := 3) (oi := _) (v := .int .i64 (j : Int)) rfl (by kernel_rfl) (by kernel_rfl) (by kernel_rfl) (fun _ _ _ h => h) (Or.inl ⟨by rfl, ?_⟩) (by trivial) ?_
                · intro w _
                  go_simp
                simp only [Act.put, List.setIfInBounds_toArray, List.set_cons_zero, List.set_cons_succ, List.getElem_toArray, List.getElem_cons_succ, List.getElem_cons_zero]
                refine wpAnyH_take (i := 4) (oi := _) (v := .int .i64 ((j : Int) + 1)) rfl (by kernel_rfl) (by kernel_rfl) (by kernel_rfl) (fun _ _ _ h => h) (Or.inl ⟨by rfl, ?_⟩) (by trivial) ?_
                · intro w _
                  go_simp
                  exact IntWalk.i64_in _ (by omega)
                simp only [Act.put, List.setIfInBounds_toArray, List.set_cons_zero, List.set_cons_succ, List.getElem_toArray, List.getElem_cons_succ, List.getElem_cons_zero]
                refine wpAnyH_take (i := 5) (oi := _) (v := .int .i64 (x : Int)) rfl (by kernel_rfl) (by kernel_rfl) (by kernel_rfl) (fun _ _ _ h => h) (Or.inl ⟨by rfl, ?_⟩) (by trivial) ?_
                · intro w _
                  go_simp
                simp only [Act.put, List.setIfInBounds_toArray, List.set_cons_zero, List.set_cons_succ, List.getElem_toArray, List.getElem_cons_succ, List.getElem_cons_zero]
                refine wpAnyH_take (i := 6) (oi := _) (v := .int .i64 (y : Int)) rfl (by kernel_rfl) (by kernel_rfl) (by kernel_rfl) (fun _ _ _ h => h) (Or.inl ⟨by rfl, ?_⟩) (by trivial) ?_
                · intro w _
                  go_simp
                simp only [Act.put, List.setIfInBounds_toArray, List.set_cons_zero, List.set_cons_succ, List.getElem_toArray, List.getElem_cons_succ, List.getElem_cons_zero]
                refine wpAnyH_take (i := 7) (oi := _) (v := .int .i64 mn) rfl (by kernel_rfl) (by kernel_rfl) (by kernel_rfl) (fun _ _ _ h => h) (Or.inl ⟨by rfl, ?_⟩) (by trivial) ?_
                · intro V _
                  first | (go_simp; done) | (go_simp; exact hmn _ _ _) | exact hmn _ _ _
                simp only [Act.put, List.setIfInBounds_toArray, List.set_cons_zero, List.set_cons_succ, List.getElem_toArray, List.getElem_cons_succ, List.getElem_cons_zero]
                refine wpAnyH_take (i := 8) (oi := _) (v := .bool true) rfl (by kernel_rfl) (by kernel_rfl) (by kernel_rfl) (fun _ _ _ h => h) (Or.inl ⟨by rfl, ?_⟩) (by trivial) ?_
                · intro w _
                  go_simp
                simp only [Act.put, List.setIfInBounds_toArray, List.set_cons_zero, List.set_cons_succ, List.getElem_toArray, List.getElem_cons_succ, List.getElem_cons_zero]
                refine wpAnyH_ready (rs := [2]) (by kernel_rfl) (by simp) ?_
                refine AllReadyH.cons (o := _) rfl (fun K hK => ?_) AllReadyH.nil
                go_simp
                go_wp2_with (first
                  | (go_at_call 16; refine (hH1.out _ (below_drew1 W2)).mono ?_; rintro e w8 ⟨rfl, hb⟩; have HB8 : Hid (Below W2.heap.size W2 w8) := Lib.hid (below_drop hb); clear hb)
                  | fail)
                refine hK.out _ _ (⟨(HCL.out _ HB8.out).1, mail8B (HCL.out _ HB8.out).2⟩) (fun _ => ?_)
                clear hK K
                refine wpAnyH_take (i := 9) (oi := _) (v := .bool true) rfl (by kernel_rfl) (by kernel_rfl) (by kernel_rfl) (fun _ _ _ h => h) (Or.inl ⟨by rfl, ?_⟩) (by trivial) ?_
                · intro w _
                  go_simp
                simp only [Act.put, List.setIfInBounds_toArray, List.set_cons_zero, List.set_cons_succ, List.getElem_toArray, List.getElem_cons_succ, List.getElem_cons_zero]
                refine wpAnyH_take (i := 10) (oi := _) (v := .int .i64 (j : Int)) rfl (by kernel_rfl) (by kernel_rfl) (by kernel_rfl) (fun _ _ _ h => h) (Or.inl ⟨by rfl, ?_⟩) (by trivial) ?_
                · intro w _
                  go_simp
                simp only [Act.put, List.setIfInBounds_toArray, List.set_cons_zero, List.set_cons_succ, List.getElem_toArray, List.getElem_cons_succ, List.getElem_cons_zero]
                refine wpAnyH_take (i := 11) (oi := _) (v := .int .i64 ((j : Int) + 1)) rfl (by kernel_rfl) (by kernel_rfl) (by kernel_rfl) (fun _ _ _ h => h) (Or.inl ⟨by rfl, ?_⟩) (by trivial) ?_
                · intro w _
                  go_simp
                  exact IntWalk.i64_in _ (by omega)
                simp only [Act.put, List.setIfInBounds_toArray, List.set_cons_zero, List.set_cons_succ, List.getElem_toArray, List.getElem_cons_succ, List.getElem_cons_zero]
                refine wpAnyH_take (i := 12) (oi := _) (v := .int .i64 (x : Int)) rfl (by kernel_rfl) (by kernel_rfl) (by kernel_rfl) (fun _ _ _ h => h) (Or.inl ⟨by rfl, ?_⟩) (by trivial) ?_
                · intro w _
                  go_simp
                simp only [Act.put, List.setIfInBounds_toArray, List.set_cons_zero, List.set_cons_succ, List.getElem_toArray, List.getElem_cons_succ, List.getElem_cons_zero]
                refine wpAnyH_take (i := 13) (oi := _) (v := .int .i64 (y : Int)) rfl (by kernel_rfl) (by kernel_rfl) (by kernel_rfl) (fun _ _ _ h => h) (Or.inl ⟨by rfl, ?_⟩) (by trivial) ?_
                · intro w _
                  go_simp
                simp only [Act.put, List.setIfInBounds_toArray, List.set_cons_zero, List.set_cons_succ, List.getElem_toArray, List.getElem_cons_succ, List.getElem_cons_zero]
                refine wpAnyH_take (i := 14) (oi := _) (v := .int .i64 mx) rfl (by kernel_rfl) (by kernel_rfl) (by kernel_rfl) (fun _ _ _ h => h) (Or.inl ⟨by rfl, ?_⟩) (by trivial) ?_
                · intro V _
                  first | (go_simp; done) | (go_simp; exact hmx _ _ _) | exact hmx _ _ _
                simp only [Act.put, List.setIfInBounds_toArray, List.set_cons_zero, List.set_cons_succ, List.getElem_toArray, List.getElem_cons_succ, List.getElem_cons_zero]
                refine wpAnyH_take (i := 15) (oi := _) (v := .bool (decide ((j : Int) + 1 ≤ mx))) rfl (by kernel_rfl) (by kernel_rfl) (by kernel_rfl) (fun _ _ _ h => h) (Or.inl ⟨by rfl, ?_⟩) (by trivial) ?_
                · intro w _
                  go_simp
                simp only [Act.put, List.setIfInBounds_toArray, List.set_cons_zero, List.set_cons_succ, List.getElem_toArray, List.getElem_cons_succ, List.getElem_cons_zero]
                refine wpAnyH_take (i := 16) (oi := _) (v := .bool (decide ((j : Int) + 1 ≤ mx))) rfl (by kernel_rfl) (by kernel_rfl) (by kernel_rfl) (fun _ _ _ h => h) (Or.inl ⟨by rfl, ?_⟩) (by trivial) ?_
                · intro w _
                  go_simp
                simp only [Act.put, List.setIfInBounds_toArray, List.set_cons_zero, List.set_cons_succ, List.getElem_toArray, List.getElem_cons_succ, List.getElem_cons_zero]
                refine wpAnyH_take (i := 17) (oi := _) (v := .bool false) rfl (by kernel_rfl) (by kernel_rfl) (by kernel_rfl) (fun _ _ _ h => h) (Or.inl ⟨by rfl, ?_⟩) (by trivial) ?_
                · intro w _
                  first | (go_simp; done) | (go_simp; simp; done)
                simp only [Act.put, List.setIfInBounds_toArray, List.set_cons_zero, List.set_cons_succ, List.getElem_toArray, List.getElem_cons_succ, List.getElem_cons_zero]
                refine wpAnyH_take (i := 18) (oi := _) (v := .bool false) rfl (by kernel_rfl) (by kernel_rfl) (by kernel_rfl) (fun _ _ _ h => h) (Or.inl ⟨by rfl, ?_⟩) (by trivial) ?_
                · intro w _
                  go_simp
                simp only [Act.put, List.setIfInBounds_toArray, List.set_cons_zero, List.set_cons_succ, List.getElem_toArray, List.getElem_cons_succ, List.getElem_cons_zero]
                refine wpAnyH_take (i := 19) (oi := _) (v := .slice A2 2 c2) rfl (by kernel_rfl) (by kernel_rfl) (by kernel_rfl) (fun _ _ _ h => h) (Or.inl ⟨by rfl, ?_⟩) (by trivial) ?_
                · intro w _
                  go_simp
                simp only [Act.put, List.setIfInBounds_toArray, List.set_cons_zero, List.set_cons_succ, List.getElem_toArray, List.getElem_cons_succ, List.getElem_cons_zero]
                refine wpAnyH_take (i := 20) (oi := _) (v := .agg #[.int .i64 1, .int .i64 0, .string ⟨#[]⟩, .int .i64 0, .slice none 0 0, .slice (some ⟨wr.heap.size, 0, none⟩) 1 1, .int .i64 0, .int .i64 0]) rfl (by kernel_rfl) (by kernel_rfl) (by kernel_rfl) (fun _ _ _ h => h) (Or.inl ⟨by rfl, ?_⟩) (by trivial) ?_
                · intro V hV
                  obtain ⟨s, s0, s1, s2, s3, s4, s5, s6, s7⟩ := hV
                  go_simp
                simp only [Act.put, List.setIfInBounds_toArray, List.set_cons_zero, List.set_cons_succ, List.getElem_toArray, List.getElem_cons_succ, List.getElem_cons_zero]
                refine wpAnyH_take (i := 22) (oi := _) (v := .slice (some ⟨bl, offl, none⟩) k cl) rfl (by kernel_rfl) (by kernel_rfl) (by kernel_rfl) (fun _ _ _ h => h) (Or.inl ⟨by rfl, ?_⟩) (by trivial) ?_
                · intro w _
                  go_simp
                simp only [Act.put, List.setIfInBounds_toArray, List.set_cons_zero, List.set_cons_succ, List.getElem_toArray, List.getElem_cons_succ, List.getElem_cons_zero]
                refine wpAnyH_take (i := 23) (oi := _) (v := .int .i64 (j : Int)) rfl (by kernel_rfl) (by kernel_rfl) (by kernel_rfl) (fun _ _ _ h => h) (Or.inl ⟨by rfl, ?_⟩) (by trivial) ?_
                · intro w _
                  go_simp
                simp only [Act.put, List.setIfInBounds_toArray, List.set_cons_zero, List.set_cons_succ, List.getElem_toArray, List.getElem_cons_succ, List.getElem_cons_zero]
                refine wpAnyH_take (i := 24) (oi := _) (v := .pointer (some ⟨bl, offl + j, none⟩)) rfl (by kernel_rfl) (by kernel_rfl) (by kernel_rfl) (fun _ _ _ h => h) (Or.inl ⟨by rfl, ?_⟩) (by trivial) ?_
                · intro w _
                  go_simp
                simp only [Act.put, List.setIfInBounds_toArray, List.set_cons_zero, List.set_cons_succ, List.getElem_toArray, List.getElem_cons_succ, List.getElem_cons_zero]
                refine wpAnyH_take (i := 25) (oi := _) (v := .int .i64 u) rfl (by kernel_rfl) (by kernel_rfl) (by kernel_rfl) (fun _ _ _ h => h) (Or.inl ⟨by rfl, ?_⟩) (by trivial) ?_
                · intro V hV
                  obtain ⟨s, s0, s1, s2, s3, s4, s5, s6, s7⟩ := hV
                  go_simp
                simp only [Act.put, List.setIfInBounds_toArray, List.set_cons_zero, List.set_cons_succ, List.getElem_toArray, List.getElem_cons_succ, List.getElem_cons_zero]
                refine wpAnyH_take (i := 26) (oi := _) (v := .int .i64 (x : Int)) rfl (by kernel_rfl) (by kernel_rfl) (by kernel_rfl) (fun _ _ _ h => h) (Or.inl ⟨by rfl, ?_⟩) (by trivial) ?_
                · intro w _
                  go_simp
                simp only [Act.put, List.setIfInBounds_toArray, List.set_cons_zero, List.set_cons_succ, List.getElem_toArray, List.getElem_cons_succ, List.getElem_cons_zero]
                refine wpAnyH_take (i := 27) (oi := _) (v := .int .i64 (y : Int)) rfl (by kernel_rfl) (by kernel_rfl) (by kernel_rfl) (fun _ _ _ h => h) (Or.inl ⟨by rfl, ?_⟩) (by trivial) ?_
                · intro w _
                  go_simp
                simp only [Act.put, List.setIfInBounds_toArray, List.set_cons_zero, List.set_cons_succ, List.getElem_toArray, List.getElem_cons_succ, List.getElem_cons_zero]
                refine wpAnyH_take (i := 28) (oi := _) (v := .int .i64 mn) rfl (by kernel_rfl) (by kernel_rfl) (by kernel_rfl) (fun _ _ _ h => h) (Or.inl ⟨by rfl, ?_⟩) (by trivial) ?_
                · intro V _
                  first | (go_simp; done) | (go_simp; exact hmn _ _ _) | exact hmn _ _ _
                simp only [Act.put, List.setIfInBounds_toArray, List.set_cons_zero, List.set_cons_succ, List.getElem_toArray, List.getElem_cons_succ, List.getElem_cons_zero]
                refine wpAnyH_take (i := 29) (oi := _) (v := .bool false) rfl (by kernel_rfl) (by kernel_rfl) (by kernel_rfl) (fun _ _ _ h => h) (Or.inl ⟨by rfl, ?_⟩) (by trivial) ?_
                · intro w _
                  go_simp
                simp only [Act.put, List.setIfInBounds_toArray, List.set_cons_zero, List.set_cons_succ, List.getElem_toArray, List.getElem_cons_succ, List.getElem_cons_zero]
                refine wpAnyH_ready (rs := [21]) (by kernel_rfl) (by simp) ?_
                refine AllReadyH.cons (o := _) rfl (fun K hK => ?_) AllReadyH.nil
                go_simp
                go_wp2_with (first
                  | (go_at_call 16; refine (hH2.out _ HB8.out).mono ?_; rintro e w9 ⟨rfl, hb⟩; have HB9 := Lib.hid (below_then HB8.out hb); clear hb)
                  | fail)
                refine hK.out _ _ (⟨(HCL.out _ HB9.out).1, mail8B (HCL.out _ HB9.out).2⟩) (fun _ => ?_)
                clear hK K
                refine wpAnyH_take (i := 30) (oi := _) (v := .bool false) rfl (by kernel_rfl) (by kernel_rfl) (by kernel_rfl) (fun _ _ _ h => h) (Or.inl ⟨by rfl, ?_⟩) (by trivial) ?_
                · intro w _
                  go_simp
                simp only [Act.put, List.setIfInBounds_toArray, List.set_cons_zero, List.set_cons_succ, List.getElem_toArray, List.getElem_cons_succ, List.getElem_cons_zero]
                refine wpAnyH_take (i := 31) (oi := _) (v := undef) rfl (by kernel_rfl) (by kernel_rfl) (by kernel_rfl) (fun _ _ _ h => h) (Or.inr ⟨by rfl, rfl⟩) (by trivial) ?_
                simp only [Act.put, List.setIfInBounds_toArray, List.set_cons_zero, List.set_cons_succ, List.getElem_toArray, List.getElem_cons_succ, List.getElem_cons_zero]
                refine wpAnyH_take (i := 32) (oi := _) (v := undef) rfl (by kernel_rfl) (by kernel_rfl) (by kernel_rfl) (fun _ _ _ h => h) (Or.inr ⟨by rfl, rfl⟩) (by trivial) ?_
                simp only [Act.put, List.setIfInBounds_toArray, List.set_cons_zero, List.set_cons_succ, List.getElem_toArray, List.getElem_cons_succ, List.getElem_cons_zero]
                refine wpAnyH_take (i := 33) (oi := _) (v := undef) rfl (by kernel_rfl) (by kernel_rfl) (by kernel_rfl) (fun _ _ _ h => h) (Or.inr ⟨by rfl, rfl⟩) (by trivial) ?_
                simp only [Act.put, List.setIfInBounds_toArray, List.set_cons_zero, List.set_cons_succ, List.getElem_toArray, List.getElem_cons_succ, List.getElem_cons_zero]
                refine wpAnyH_take (i := 34) (oi := _) (v := undef) rfl (by kernel_rfl) (by kernel_rfl) (by kernel_rfl) (fun _ _ _ h => h) (Or.inr ⟨by rfl, rfl⟩) (by trivial) ?_
                simp only [Act.put, List.setIfInBounds_toArray, List.set_cons_zero, List.set_cons_succ, List.getElem_toArray, List.getElem_cons_succ, List.getElem_cons_zero]
                refine wpAnyH_take (i := 35) (oi := _) (v := undef) rfl (by kernel_rfl) (by kernel_rfl) (by kernel_rfl) (fun _ _ _ h => h) (Or.inr ⟨by rfl, rfl⟩) (by trivial) ?_
                simp only [Act.put, List.setIfInBounds_toArray, List.set_cons_zero, List.set_cons_succ, List.getElem_toArray, List.getElem_cons_succ, List.getElem_cons_zero]
                refine wpAnyH_take (i := 36) (oi := _) (v := undef) rfl (by kernel_rfl) (by kernel_rfl) (by kernel_rfl) (fun _ _ _ h => h) (Or.inr ⟨by rfl, rfl⟩) (by trivial) ?_
                simp only [Act.put, List.setIfInBounds_toArray, List.set_cons_zero, List.set_cons_succ, List.getElem_toArray, List.getElem_cons_succ, List.getElem_cons_zero]
                refine wpAnyH_take (i := 37) (oi := _) (v := undef) rfl (by kernel_rfl) (by kernel_rfl) (by kernel_rfl) (fun _ _ _ h => h) (Or.inr ⟨by rfl, rfl⟩) (by trivial) ?_
                simp only [Act.put, List.setIfInBounds_toArray, List.set_cons_zero, List.set_cons_succ, List.getElem_toArray, List.getElem_cons_succ, List.getElem_cons_zero]
                refine wpAnyH_take (i := 38) (oi := _) (v := undef) rfl (by kernel_rfl) (by kernel_rfl) (by kernel_rfl) (fun _ _ _ h => h) (Or.inr ⟨by rfl, rfl⟩) (by trivial) ?_
                simp only [Act.put, List.setIfInBounds_toArray, List.set_cons_zero, List.set_cons_succ, List.getElem_toArray, List.getElem_cons_succ, List.getElem_cons_zero]
                refine wpAnyH_take (i := 39) (oi := _) (v := .bool (false)) rfl (by kernel_rfl) (by kernel_rfl) (by kernel_rfl) (fun _ _ _ h => h) (Or.inl ⟨by rfl, ?_⟩) (by trivial) ?_
                · intro w _
                  go_simp
                simp only [Act.put, List.setIfInBounds_toArray, List.set_cons_zero, List.set_cons_succ, List.getElem_toArray, List.getElem_cons_succ, List.getElem_cons_zero]
                refine wpAnyH_take (i := 40) (oi := _) (v := .bool false) rfl (by kernel_rfl) (by kernel_rfl) (by kernel_rfl) (fun _ _ _ h => h) (Or.inl ⟨by rfl, ?_⟩) (by trivial) ?_
                · intro w _
                  first | (go_simp; done) | (go_simp; simp; done)
                simp only [Act.put, List.setIfInBounds_toArray, List.set_cons_zero, List.set_cons_succ, List.getElem_toArray, List.getElem_cons_succ, List.getElem_cons_zero]
                refine wpAnyH_take (i := 41) (oi := _) (v := .bool false) rfl (by kernel_rfl) (by kernel_rfl) (by kernel_rfl) (fun _ _ _ h => h) (Or.inl ⟨by rfl, ?_⟩) (by trivial) ?_
                · intro w _
                  go_simp
                simp only [Act.put, List.setIfInBounds_toArray, List.set_cons_zero, List.set_cons_succ, List.getElem_toArray, List.getElem_cons_succ, List.getElem_cons_zero]
                refine wpAnyH_done (by kernel_rfl) ?_ _
                all_goals
                  go_wp2
                  have HQ9 := Lib.hid (below_then HB2.out HB9.out)
                  have HR1 := Lib.hid (HG1.out.below HQ9.out)
                  have HR2 := Lib.hid (HG2.out.below HQ9.out)
                  have HR0 := Lib.hid (below_then HQ.out HQ9.out)
                  refine ⟨?_, by simp [intOf]; omega⟩
                  first | exact ⟨j + 1, by omega, by go_num, HR0, HR1, HR2⟩ | ((repeat apply Exists.intro); exact ⟨⟨j + 1, by omega, by go_num, HR0, HR1, HR2⟩, rfl⟩)
              · have e1 : (decide (mn ≤ (j : Int) + 1) && decide ((j : Int) + 1 ≤ mx)) = (decide ((j : Int) + 1 ≤ mx)) := by rw [decide_eq_true (by omega)]; rfl
                have e2 : (decide (mn ≤ u) && decide (u ≤ mx)) = (decide (u ≤ mx)) := by rw [decide_eq_true (by omega)]; rfl
                rw [e1] at hH1
                rw [e2] at hH2
                clear e1 e2
                refine wp_region_held_drew (S := fun V => V.cell? ⟨bl, offl + j, none⟩ = some (.int .i64 u) ∧ V.cell? ⟨wr.heap.size + 1, 0, none⟩ = some (.int .i64 1) ∧ V.cell? ⟨wr.heap.size + 1, 1, none⟩ = some (.int .i64 0) ∧ V.cell? ⟨wr.heap.size + 1, 2, none⟩ = some (.string ⟨#[]⟩) ∧ V.cell? ⟨wr.heap.size + 1, 3, none⟩ = some (.int .i64 0) ∧ V.cell? ⟨wr.heap.size + 1, 4, none⟩ = some (.slice none 0 0) ∧ V.cell? ⟨wr.heap.size + 1, 5, none⟩ = some (.slice (some ⟨wr.heap.size, 0, none⟩) 1 1) ∧ V.cell? ⟨wr.heap.size + 1, 6, none⟩ = some (.int .i64 0) ∧ V.cell? ⟨wr.heap.size + 1, 7, none⟩ = some (.int .i64 0)) (by kernel_rfl) (⟨(HCL.out _ (below_drew1 W2)).1, mail8B (HCL.out _ (below_drew1 W2)).2⟩) (fun hHeld => ?_)
                refine wpAnyH_take (i := 1) (oi := _) (v := .agg #[.int .i64 1, .int .i64 0, .string ⟨#[]⟩, .int .i64 0, .slice none 0 0, .slice (some ⟨wr.heap.size, 0, none⟩) 1 1, .int .i64 0, .int .i64 0]) rfl (by kernel_rfl) (by kernel_rfl) (by kernel_rfl) (fun _ _ _ h => h) (Or.inl ⟨by rfl, ?_⟩) (by trivial) ?_
                · intro V hV
                  obtain ⟨s, s0, s1, s2, s3, s4, s5, s6, s7⟩ := hV
                  go_simp
                simp only [Act.put, List.setIfInBounds_toArray, List.set_cons_zero, List.set_cons_succ, List.getElem_toArray, List.getElem_cons_succ, List.getElem_cons_zero]
                refine wpAnyH_take (i := 0) (oi := _) (v := .slice A1 2 c1) rfl (by kernel_rfl) (by kernel_rfl) (by kernel_rfl) (fun _ _ _ h => h) (Or.inl ⟨by rfl, ?_⟩) (by trivial) ?_
                · intro w _
                  go_simp
                simp only [Act.put, List.setIfInBounds_toArray, List.set_cons_zero, List.set_cons_succ, List.getElem_toArray, List.getElem_cons_zero]
                refine wpAnyH_take (i := 3) (oi := _) (v := .int .i64 (j : Int)) rfl (by kernel_rfl) (by kernel_rfl) (by kernel_rfl) (fun _ _ _ h => h) (Or.inl ⟨by rfl, ?_⟩) (by trivial) ?_
                · intro w _
                  go_simp
                simp only [Act.put, List.setIfInBounds_toArray, List.set_cons_zero, List.set_cons_succ, List.getElem_toArray, List.getElem_cons_succ, List.getElem_cons_zero]
                refine wpAnyH_take (i := 4) (oi := _) (v := .int .i64 ((j : Int) + 1)) rfl (by kernel_rfl) (by kernel_rfl) (by kernel_rfl) (fun _ _ _ h => h) (Or.inl ⟨by rfl, ?_⟩) (by trivial) ?_
                · intro w _
                  go_simp
                  exact IntWalk.i64_in _ (by omega)
                simp only [Act.put, List.setIfInBounds_toArray, List.set_cons_zero, List.set_cons_succ, List.getElem_toArray, List.getElem_cons_succ, List.getElem_cons_zero]
                refine wpAnyH_take (i := 5) (oi := _) (v := .int .i64 (x : Int)) rfl (by kernel_rfl) (by kernel_rfl) (by kernel_rfl) (fun _ _ _ h => h) (Or.inl ⟨by rfl, ?_⟩) (by trivial) ?_
                · intro w _
                  go_simp
                simp only [Act.put, List.setIfInBounds_toArray, List.set_cons_zero, List.set_cons_succ, List.getElem_toArray, List.getElem_cons_succ, List.getElem_cons_zero]
                refine wpAnyH_take (i := 6) (oi := _) (v := .int .i64 (y : Int)) rfl (by kernel_rfl) (by kernel_rfl) (by kernel_rfl) (fun _ _ _ h => h) (Or.inl ⟨by rfl, ?_⟩) (by trivial) ?_
                · intro w _
                  go_simp
                simp only [Act.put, List.setIfInBounds_toArray, List.set_cons_zero, List.set_cons_succ, List.getElem_toArray, List.getElem_cons_succ, List.getElem_cons_zero]
                refine wpAnyH_take (i := 7) (oi := _) (v := .int .i64 mn) rfl (by kernel_rfl) (by kernel_rfl) (by kernel_rfl) (fun _ _ _ h => h) (Or.inl ⟨by rfl, ?_⟩) (by trivial) ?_
                · intro V _
                  first | (go_simp; done) | (go_simp; exact hmn _ _ _) | exact hmn _ _ _
                simp only [Act.put, List.setIfInBounds_toArray, List.set_cons_zero, List.set_cons_succ, List.getElem_toArray, List.getElem_cons_succ, List.getElem_cons_zero]
                refine wpAnyH_take (i := 8) (oi := _) (v := .bool true) rfl (by kernel_rfl) (by kernel_rfl) (by kernel_rfl) (fun _ _ _ h => h) (Or.inl ⟨by rfl, ?_⟩) (by trivial) ?_
                · intro w _
                  go_simp
                simp only [Act.put, List.setIfInBounds_toArray, List.set_cons_zero, List.set_cons_succ, List.getElem_toArray, List.getElem_cons_succ, List.getElem_cons_zero]
                refine wpAnyH_ready (rs := [2]) (by kernel_rfl) (by simp) ?_
                refine AllReadyH.cons (o := _) rfl (fun K hK => ?_) AllReadyH.nil
                go_simp
                go_wp2_with (first
                  | (go_at_call 16; refine (hH1.out _ (below_drew1 W2)).mono ?_; rintro e w8 ⟨rfl, hb⟩; have HB8 : Hid (Below W2.heap.size W2 w8) := Lib.hid (below_drop hb); clear hb)
                  | fail)
                refine hK.out _ _ (⟨(HCL.out _ HB8.out).1, mail8B (HCL.out _ HB8.out).2⟩) (fun _ => ?_)
                clear hK K
                refine wpAnyH_take (i := 9) (oi := _) (v := .bool true) rfl (by kernel_rfl) (by kernel_rfl) (by kernel_rfl) (fun _ _ _ h => h) (Or.inl ⟨by rfl, ?_⟩) (by trivial) ?_
                · intro w _
                  go_simp
                simp only [Act.put, List.setIfInBounds_toArray, List.set_cons_zero, List.set_cons_succ, List.getElem_toArray, List.getElem_cons_succ, List.getElem_cons_zero]
                refine wpAnyH_take (i := 10) (oi := _) (v := .int .i64 (j : Int)) rfl (by kernel_rfl) (by kernel_rfl) (by kernel_rfl) (fun _ _ _ h => h) (Or.inl ⟨by rfl, ?_⟩) (by trivial) ?_
                · intro w _
                  go_simp
                simp only [Act.put, List.setIfInBounds_toArray, List.set_cons_zero, List.set_cons_succ, List.getElem_toArray, List.getElem_cons_succ, List.getElem_cons_zero]
                refine wpAnyH_take (i := 11) (oi := _) (v := .int .i64 ((j : Int) + 1)) rfl (by kernel_rfl) (by kernel_rfl) (by kernel_rfl) (fun _ _ _ h => h) (Or.inl ⟨by rfl, ?_⟩) (by trivial) ?_
                · intro w _
                  go_simp
                  exact IntWalk.i64_in _ (by omega)
                simp only [Act.put, List.setIfInBounds_toArray, List.set_cons_zero, List.set_cons_succ, List.getElem_toArray, List.getElem_cons_succ, List.getElem_cons_zero]
                refine wpAnyH_take (i := 12) (oi := _) (v := .int .i64 (x : Int)) rfl (by kernel_rfl) (by kernel_rfl) (by kernel_rfl) (fun _ _ _ h => h) (Or.inl ⟨by rfl, ?_⟩) (by trivial) ?_
                · intro w _
                  go_simp
                simp only [Act.put, List.setIfInBounds_toArray, List.set_cons_zero, List.set_cons_succ, List.getElem_toArray, List.getElem_cons_succ, List.getElem_cons_zero]
                refine wpAnyH_take (i := 13) (oi := _) (v := .int .i64 (y : Int)) rfl (by kernel_rfl) (by kernel_rfl) (by kernel_rfl) (fun _ _ _ h => h) (Or.inl ⟨by rfl, ?_⟩) (by trivial) ?_
                · intro w _
                  go_simp
                simp only [Act.put, List.setIfInBounds_toArray, List.set_cons_zero, List.set_cons_succ, List.getElem_toArray, List.getElem_cons_succ, List.getElem_cons_zero]
                refine wpAnyH_take (i := 14) (oi := _) (v := .int .i64 mx) rfl (by kernel_rfl) (by kernel_rfl) (by kernel_rfl) (fun _ _ _ h => h) (Or.inl ⟨by rfl, ?_⟩) (by trivial) ?_
                · intro V _
                  first | (go_simp; done) | (go_simp; exact hmx _ _ _) | exact hmx _ _ _
                simp only [Act.put, List.setIfInBounds_toArray, List.set_cons_zero, List.set_cons_succ, List.getElem_toArray, List.getElem_cons_succ, List.getElem_cons_zero]
                refine wpAnyH_take (i := 15) (oi := _) (v := .bool (decide ((j : Int) + 1 ≤ mx))) rfl (by kernel_rfl) (by kernel_rfl) (by kernel_rfl) (fun _ _ _ h => h) (Or.inl ⟨by rfl, ?_⟩) (by trivial) ?_
                · intro w _
                  go_simp
                simp only [Act.put, List.setIfInBounds_toArray, List.set_cons_zero, List.set_cons_succ, List.getElem_toArray, List.getElem_cons_succ, List.getElem_cons_zero]
                refine wpAnyH_take (i := 16) (oi := _) (v := .bool (decide ((j : Int) + 1 ≤ mx))) rfl (by kernel_rfl) (by kernel_rfl) (by kernel_rfl) (fun _ _ _ h => h) (Or.inl ⟨by rfl, ?_⟩) (by trivial) ?_
                · intro w _
                  go_simp
                simp only [Act.put, List.setIfInBounds_toArray, List.set_cons_zero, List.set_cons_succ, List.getElem_toArray, List.getElem_cons_succ, List.getElem_cons_zero]
                refine wpAnyH_take (i := 17) (oi := _) (v := .bool false) rfl (by kernel_rfl) (by kernel_rfl) (by kernel_rfl) (fun _ _ _ h => h) (Or.inl ⟨by rfl, ?_⟩) (by trivial) ?_
                · intro w _
                  first | (go_simp; done) | (go_simp; simp; done)
                simp only [Act.put, List.setIfInBounds_toArray, List.set_cons_zero, List.set_cons_succ, List.getElem_toArray, List.getElem_cons_succ, List.getElem_cons_zero]
                refine wpAnyH_take (i := 18) (oi := _) (v := .bool false) rfl (by kernel_rfl) (by kernel_rfl) (by kernel_rfl) (fun _ _ _ h => h) (Or.inl ⟨by rfl, ?_⟩) (by trivial) ?_
                · intro w _
                  go_simp
                simp only [Act.put, List.setIfInBounds_toArray, List.set_cons_zero, List.set_cons_succ, List.getElem_toArray, List.getElem_cons_succ, List.getElem_cons_zero]
                refine wpAnyH_take (i := 19) (oi := _) (v := .slice A2 2 c2) rfl (by kernel_rfl) (by kernel_rfl) (by kernel_rfl) (fun _ _ _ h => h) (Or.inl ⟨by rfl, ?_⟩) (by trivial) ?_
                · intro w _
                  go_simp
                simp only [Act.put, List.setIfInBounds_toArray, List.set_cons_zero, List.set_cons_succ, List.getElem_toArray, List.getElem_cons_succ, List.getElem_cons_zero]
                refine wpAnyH_take (i := 20) (oi := _) (v := .agg #[.int .i64 1, .int .i64 0, .string ⟨#[]⟩, .int .i64 0, .slice none 0 0, .slice (some ⟨wr.heap.size, 0, none⟩) 1 1, .int .i64 0, .int .i64 0]) rfl (by kernel_rfl) (by kernel_rfl) (by kernel_rfl) (fun _ _ _ h => h) (Or.inl ⟨by rfl, ?_⟩) (by trivial) ?_
                · intro V hV
                  obtain ⟨s, s0, s1, s2, s3, s4, s5, s6, s7⟩ := hV
                  go_simp
                simp only [Act.put, List.setIfInBounds_toArray, List.set_cons_zero, List.set_cons_succ, List.getElem_toArray, List.getElem_cons_succ, List.getElem_cons_zero]
                refine wpAnyH_take (i := 22) (oi := _) (v := .slice (some ⟨bl, offl, none⟩) k cl) rfl (by kernel_rfl) (by kernel_rfl) (by kernel_rfl) (fun _ _ _ h => h) (Or.inl ⟨by rfl, ?_⟩) (by trivial) ?_
                · intro w _
                  go_simp
                simp only [Act.put, List.setIfInBounds_toArray, List.set_cons_zero, List.set_cons_succ, List.getElem_toArray, List.getElem_cons_succ, List.getElem_cons_zero]
                refine wpAnyH_take (i := 23) (oi := _) (v := .int .i64 (j : Int)) rfl (by kernel_rfl) (by kernel_rfl) (by kernel_rfl) (fun _ _ _ h => h) (Or.inl ⟨by rfl, ?_⟩) (by trivial) ?_
                · intro w _
                  go_simp
                simp only [Act.put, List.setIfInBounds_toArray, List.set_cons_zero, List.set_cons_succ, List.getElem_toArray, List.getElem_cons_succ, List.getElem_cons_zero]
                refine wpAnyH_take (i := 24) (oi := _) (v := .pointer (some ⟨bl, offl + j, none⟩)) rfl (by kernel_rfl) (by kernel_rfl) (by kernel_rfl) (fun _ _ _ h => h) (Or.inl ⟨by rfl, ?_⟩) (by trivial) ?_
                · intro w _
                  go_simp
                simp only [Act.put, List.setIfInBounds_toArray, List.set_cons_zero, List.set_cons_succ, List.getElem_toArray, List.getElem_cons_succ, List.getElem_cons_zero]
                refine wpAnyH_take (i := 25) (oi := _) (v := .int .i64 u) rfl (by kernel_rfl) (by kernel_rfl) (by kernel_rfl) (fun _ _ _ h => h) (Or.inl ⟨by rfl, ?_⟩) (by trivial) ?_
                · intro V hV
                  obtain ⟨s, s0, s1, s2, s3, s4, s5, s6, s7⟩ := hV
                  go_simp
                simp only [Act.put, List.setIfInBounds_toArray, List.set_cons_zero, List.set_cons_succ, List.getElem_toArray, List.getElem_cons_succ, List.getElem_cons_zero]
                refine wpAnyH_take (i := 26) (oi := _) (v := .int .i64 (x : Int)) rfl (by kernel_rfl) (by kernel_rfl) (by kernel_rfl) (fun _ _ _ h => h) (Or.inl ⟨by rfl, ?_⟩) (by trivial) ?_
                · intro w _
                  go_simp
                simp only [Act.put, List.setIfInBounds_toArray, List.set_cons_zero, List.set_cons_succ, List.getElem_toArray, List.getElem_cons_succ, List.getElem_cons_zero]
                refine wpAnyH_take (i := 27) (oi := _) (v := .int .i64 (y : Int)) rfl (by kernel_rfl) (by kernel_rfl) (by kernel_rfl) (fun _ _ _ h => h) (Or.inl ⟨by rfl, ?_⟩) (by trivial) ?_
                · intro w _
                  go_simp
                simp only [Act.put, List.setIfInBounds_toArray, List.set_cons_zero, List.set_cons_succ, List.getElem_toArray, List.getElem_cons_succ, List.getElem_cons_zero]
                refine wpAnyH_take (i := 28) (oi := _) (v := .int .i64 mn) rfl (by kernel_rfl) (by kernel_rfl) (by kernel_rfl) (fun _ _ _ h => h) (Or.inl ⟨by rfl, ?_⟩) (by trivial) ?_
                · intro V _
                  first | (go_simp; done) | (go_simp; exact hmn _ _ _) | exact hmn _ _ _
                simp only [Act.put, List.setIfInBounds_toArray, List.set_cons_zero, List.set_cons_succ, List.getElem_toArray, List.getElem_cons_succ, List.getElem_cons_zero]
                refine wpAnyH_take (i := 29) (oi := _) (v := .bool true) rfl (by kernel_rfl) (by kernel_rfl) (by kernel_rfl) (fun _ _ _ h => h) (Or.inl ⟨by rfl, ?_⟩) (by trivial) ?_
                · intro w _
                  go_simp
                simp only [Act.put, List.setIfInBounds_toArray, List.set_cons_zero, List.set_cons_succ, List.getElem_toArray, List.getElem_cons_succ, List.getElem_cons_zero]
                refine wpAnyH_ready (rs := [21]) (by kernel_rfl) (by simp) ?_
                refine AllReadyH.cons (o := _) rfl (fun K hK => ?_) AllReadyH.nil
                go_simp
                go_wp2_with (first
                  | (go_at_call 16; refine (hH2.out _ HB8.out).mono ?_; rintro e w9 ⟨rfl, hb⟩; have HB9 := Lib.hid (below_then HB8.out hb); clear hb)
                  | fail)
                refine hK.out _ _ (⟨(HCL.out _ HB9.out).1, mail8B (HCL.out _ HB9.out).2⟩) (fun _ => ?_)
                clear hK K
                refine wpAnyH_take (i := 30) (oi := _) (v := .bool true) rfl (by kernel_rfl) (by kernel_rfl) (by kernel_rfl) (fun _ _ _ h => h) (Or.inl ⟨by rfl, ?_⟩) (by trivial) ?_
                · intro w _
                  go_simp
                simp only [Act.put, List.setIfInBounds_toArray, List.set_cons_zero, List.set_cons_succ, List.getElem_toArray, List.getElem_cons_succ, List.getElem_cons_zero]
                refine wpAnyH_take (i := 31) (oi := _) (v := .slice (some ⟨bl, offl, none⟩) k cl) rfl (by kernel_rfl) (by kernel_rfl) (by kernel_rfl) (fun _ _ _ h => h) (Or.inl ⟨by rfl, ?_⟩) (by trivial) ?_
                · intro w _
                  go_simp
                simp only [Act.put, List.setIfInBounds_toArray, List.set_cons_zero, List.set_cons_succ, List.getElem_toArray, List.getElem_cons_succ, List.getElem_cons_zero]
                refine wpAnyH_take (i := 32) (oi := _) (v := .int .i64 (j : Int)) rfl (by kernel_rfl) (by kernel_rfl) (by kernel_rfl) (fun _ _ _ h => h) (Or.inl ⟨by rfl, ?_⟩) (by trivial) ?_
                · intro w _
                  go_simp
                simp only [Act.put, List.setIfInBounds_toArray, List.set_cons_zero, List.set_cons_succ, List.getElem_toArray, List.getElem_cons_succ, List.getElem_cons_zero]
                refine wpAnyH_take (i := 33) (oi := _) (v := .pointer (some ⟨bl, offl + j, none⟩)) rfl (by kernel_rfl) (by kernel_rfl) (by kernel_rfl) (fun _ _ _ h => h) (Or.inl ⟨by rfl, ?_⟩) (by trivial) ?_
                · intro w _
                  go_simp
                simp only [Act.put, List.setIfInBounds_toArray, List.set_cons_zero, List.set_cons_succ, List.getElem_toArray, List.getElem_cons_succ, List.getElem_cons_zero]
                refine wpAnyH_take (i := 34) (oi := _) (v := .int .i64 u) rfl (by kernel_rfl) (by kernel_rfl) (by kernel_rfl) (fun _ _ _ h => h) (Or.inl ⟨by rfl, ?_⟩) (by trivial) ?_
                · intro V hV
                  obtain ⟨s, s0, s1, s2, s3, s4, s5, s6, s7⟩ := hV
                  go_simp
                simp only [Act.put, List.setIfInBounds_toArray, List.set_cons_zero, List.set_cons_succ, List.getElem_toArray, List.getElem_cons_succ, List.getElem_cons_zero]
                refine wpAnyH_take (i := 35) (oi := _) (v := .int .i64 (x : Int)) rfl (by kernel_rfl) (by kernel_rfl) (by kernel_rfl) (fun _ _ _ h => h) (Or.inl ⟨by rfl, ?_⟩) (by trivial) ?_
                · intro w _
                  go_simp
                simp only [Act.put, List.setIfInBounds_toArray, List.set_cons_zero, List.set_cons_succ, List.getElem_toArray, List.getElem_cons_succ, List.getElem_cons_zero]
                refine wpAnyH_take (i := 36) (oi := _) (v := .int .i64 (y : Int)) rfl (by kernel_rfl) (by kernel_rfl) (by kernel_rfl) (fun _ _ _ h => h) (Or.inl ⟨by rfl, ?_⟩) (by trivial) ?_
                · intro w _
                  go_simp
                simp only [Act.put, List.setIfInBounds_toArray, List.set_cons_zero, List.set_cons_succ, List.getElem_toArray, List.getElem_cons_succ, List.getElem_cons_zero]
                refine wpAnyH_take (i := 37) (oi := _) (v := .int .i64 mx) rfl (by kernel_rfl) (by kernel_rfl) (by kernel_rfl) (fun _ _ _ h => h) (Or.inl ⟨by rfl, ?_⟩) (by trivial) ?_
                · intro V _
                  first | (go_simp; done) | (go_simp; exact hmx _ _ _) | exact hmx _ _ _
                simp only [Act.put, List.setIfInBounds_toArray, List.set_cons_zero, List.set_cons_succ, List.getElem_toArray, List.getElem_cons_succ, List.getElem_cons_zero]
                refine wpAnyH_take (i := 38) (oi := _) (v := .bool (decide (u ≤ mx))) rfl (by kernel_rfl) (by kernel_rfl) (by kernel_rfl) (fun _ _ _ h => h) (Or.inl ⟨by rfl, ?_⟩) (by trivial) ?_
                · intro w _
                  go_simp
                simp only [Act.put, List.setIfInBounds_toArray, List.set_cons_zero, List.set_cons_succ, List.getElem_toArray, List.getElem_cons_succ, List.getElem_cons_zero]
                refine wpAnyH_take (i := 39) (oi := _) (v := .bool (decide (u ≤ mx))) rfl (by kernel_rfl) (by kernel_rfl) (by kernel_rfl) (fun _ _ _ h => h) (Or.inl ⟨by rfl, ?_⟩) (by trivial) ?_
                · intro w _
                  go_simp
                simp only [Act.put, List.setIfInBounds_toArray, List.set_cons_zero, List.set_cons_succ, List.getElem_toArray, List.getElem_cons_succ, List.getElem_cons_zero]
                refine wpAnyH_take (i := 40) (oi := _) (v := .bool false) rfl (by kernel_rfl) (by kernel_rfl) (by kernel_rfl) (fun _ _ _ h => h) (Or.inl ⟨by rfl, ?_⟩) (by trivial) ?_
                · intro w _
                  first | (go_simp; done) | (go_simp; simp; done)
                simp only [Act.put, List.setIfInBounds_toArray, List.set_cons_zero, List.set_cons_succ, List.getElem_toArray, List.getElem_cons_succ, List.getElem_cons_zero]
                refine wpAnyH_take (i := 41) (oi := _) (v := .bool false) rfl (by kernel_rfl) (by kernel_rfl) (by kernel_rfl) (fun _ _ _ h => h) (Or.inl ⟨by rfl, ?_⟩) (by trivial) ?_
                · intro w _
                  go_simp
                simp only [Act.put, List.setIfInBounds_toArray, List.set_cons_zero, List.set_cons_succ, List.getElem_toArray, List.getElem_cons_succ, List.getElem_cons_zero]
                refine wpAnyH_done (by kernel_rfl) ?_ _
                all_goals
                  go_wp2
                  have HQ9 := Lib.hid (below_then HB2.out HB9.out)
                  have HR1 := Lib.hid (HG1.out.below HQ9.out)
                  have HR2 := Lib.hid (HG2.out.below HQ9.out)
                  have HR0 := Lib.hid (below_then HQ.out HQ9.out)
                  refine ⟨?_, by simp [intOf]; omega⟩
                  first | exact ⟨j + 1, by omega, by go_num, HR0, HR1, HR2⟩ | ((repeat apply Exists.intro); exact ⟨⟨j + 1, by omega, by go_num, HR0, HR1, HR2⟩, rfl⟩)
            · have hjk2 : j = k := by omega
              subst hjk2
              have hje : 0 < L.length := by rw [HLK.out]; omega
              obtain ⟨bl, offl, capl, hva, _, _, hbl, _, hat⟩ := HLR.out.at_ (by omega)
              injection hva with hva1 hva2 hva3
              subst hva1
              clear hva2 hva3
              have hc := hat 0 (by omega)
              have hg : (intC L)[0]? = some (.int .i64 L[0]) := by simp [intC, hje]
              rw [hg] at hc
              have d0 : wr.cell? ⟨bl, offl + 0, none⟩ = some (.int .i64 L[0]) := (HQ.out.cell (p := ⟨bl, offl + 0, none⟩) hbl).trans hc
              rw [Nat.add_zero] at d0
              generalize L[0] = u at d0
              have hBM := Blk.new wr 49 #[.int .i64 4, .int .i64 u]
              have hH3 : Calls Tryz.prog 16 #[.slice A1 2 c1, .agg #[.int .i64 0, .int .i64 0, .string ⟨#[]⟩, .int .i64 0, .slice none 0 0, .slice (some ⟨wr.heap.size, 0, none⟩) 1 1, .int .i64 0, .int .i64 0]] (wr.alloc (.cells #[.int .i64 4, .int .i64 u] 49)) fun en w' => en = .returned (.bool false) ∧ Below wr.heap.size wr w' := by
                obtain ⟨z1, z2, z3⟩ := set_good 3 S1
                have h := holds_mem (wr.alloc (.cells #[.int .i64 4, .int .i64 u] 49)) 0 4 u wr.heap.size hBM (setF 3 S1) (.slice A1 2 c1) (HG1.out.below (below_alloc1 wr _)) z1 z2 z3
                rw [holds_setM] at h
                exact h.mono fun e w' hh => ⟨hh.1, below_then (below_alloc1 wr _) hh.2⟩
              have HBO := Lib.hid (below_then HBE.out HQ.out)
              clear hat hg hc hBM
              go_wp2_with (first
                | (go_at_call 16; have HG := HBO; refine hH3.mono ?_; rintro e w8 ⟨rfl, hb⟩; have HB8 := Lib.hid (below_then HBO.out hb); have HM8 := Lib.hid (HM.out.below HB8.out); clear hb HG HBO)
                | (go_at_call 10; refine (hAw _ HM8.out).mono ?_; rintro e w9 ⟨rfl, hb⟩; have HB9 := Lib.hid (below_then HB8.out hb); clear hb)
                | fail)
              go_ret
              exact ⟨rfl, HB9.out⟩

end Go.Proofs.YtnfabgbidkddhaaGreatDoor
