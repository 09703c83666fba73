/-
  The walk of pillarboxlaw23.CritFlags.
-/
import Derived.Test.YtnfabgbidkddhaaGreatDoorFlagsPM
import Derived.Deep.RegionLaw
import Derived.Deep.RegionHeld3
namespace Go.Proofs.YtnfabgbidkddhaaGreatDoor
open Go.RowKit
attribute [local go_sem ↓] Go.wp_at_zero Go.wp_at_succ

theorem Tryz.infoStrF : (Tryz.prog.info? 9).map (fun i => (i.zero, i.size, i.bytes)) = some (some (.string ⟨#[]⟩), 1, 16) := by kernel_rfl
def lowC : Array Value := #[.string ⟨#[97, 110, 115, 119, 101, 114, 101, 100]⟩, .string ⟨#[100, 101, 108, 101, 116, 101, 100]⟩, .string ⟨#[100, 114, 97, 102, 116]⟩, .string ⟨#[102, 108, 97, 103, 103, 101, 100]⟩, .string ⟨#[115, 101, 101, 110]⟩]
theorem lowC_at : ∀ j, j < 5 → lowC[j]? = some (.string (lowF5 j)) := by
  intro j hj
  match j, hj with
  | 0, _ => rfl
  | 1, _ => rfl
  | 2, _ => rfl
  | 3, _ => rfl
  | 4, _ => rfl
def upC : Array Value := #[.string ⟨#[65, 110, 115, 119, 101, 114, 101, 100]⟩, .string ⟨#[68, 69, 76, 69, 84, 69, 68]⟩, .string ⟨#[100, 114, 97, 102, 84]⟩, .string ⟨#[70, 76, 65, 71, 103, 101, 100]⟩, .string ⟨#[83, 69, 69, 78]⟩]
theorem upC_at : ∀ j, j < 5 → upC[j]? = some (.string (upF5 j)) := by
  intro j hj
  match j, hj with
  | 0, _ => rfl
  | 1, _ => rfl
  | 2, _ => rfl
  | 3, _ => rfl
  | 4, _ => rfl
/-- What the loop keeps: the mail's cells, the flags' words, the keywords so far. -/
structure FlSt (w wr : World) (gs : List Int) (k : Nat) (kv : Value) (hh : Option Nat) : Prop where
  mail : Blk wr (w.heap.size + 1) 39 #[.int .i64 1, .int .i64 0, .string ⟨#[]⟩, .int .i64 0, kv, .slice none 0 0, .int .i64 0, .int .i64 0]
  low : Blk wr w.heap.size 9 lowC
  sl : Sl wr 9 1 kv hh k (keysV (keysF (gs.take k)))
  own : ∀ b, hh = some b → w.heap.size + 2 ≤ b
  bel : Below w.heap.size w wr
theorem keysF_succ (gs : List Int) (k : Nat) (hk : k < gs.length) : keysV (keysF (gs.take (k + 1))) = keysV (keysF (gs.take k)) ++ [.string (keyF5 (gs[k].toNat % 5))] := by
  rw [List.take_succ_eq_append_getElem hk]
  unfold keysF keysV
  rw [List.map_append, List.map_append]
  rfl
theorem hasF_succ (gs : List Int) (f k : Nat) (hk : k < gs.length) : hasF (gs.take (k + 1)) f = (hasF (gs.take k) f || gs[k].toNat % 5 == f) := by
  rw [List.take_succ_eq_append_getElem hk]
  unfold hasF
  rw [List.any_append]
  simp only [List.any_cons, List.any_nil, Bool.or_false]
theorem FlSt.push {w wr w2 : World} {gs : List Int} {k : Nat} {kv v' : Value} {hh h' : Option Nat} (p : FlSt w wr gs k kv hh) (hk : k < gs.length) (c : Obj)
    (hs : Sl w2 9 1 v' h' (k + 1) (keysV (keysF (gs.take k)) ++ [.string (keyF5 (gs[k].toNat % 5))])) (hc : Chg hh.toList (wr.alloc c) w2) (ho : h' = hh ∨ ∃ b, h' = some b ∧ (wr.alloc c).heap.size ≤ b) :
    FlSt w (w2.setCell ⟨w.heap.size + 1, 4, none⟩ v') gs (k + 1) v' h' := by
  have hB := p.bel.alloc p.bel.size c
  have hm1 := (p.mail.alloc c).chg hc (fun hm => by have := p.own _ (by simpa using hm); omega)
  have hsz := p.bel.size
  have hw2 : Below w.heap.size w w2 := hB.trans (hc.below hB.size fun b hb => by have := p.own b (by simpa using hb); omega)
  have hmg := p.mail.lt
  have hown : ∀ b, h' = some b → w.heap.size + 2 ≤ b := fun b hb => by
    rcases ho with h1 | ⟨b', h1, h2⟩
    · exact p.own b (by rw [← h1]; exact hb)
    · rw [h1] at hb
      injection hb with hb
      simp at h2
      omega
  refine ⟨hm1.set 4 v', ((p.low.alloc c).chg hc (fun hm => by have := p.own _ (by simpa using hm); omega)).far (by simp) _, ?_, hown, hw2.setCell (by simp) _⟩
  rw [keysF_succ gs k hk]
  exact hs.far (fun hm => by have := hown _ hm; simp at this <;> omega) _

set_option maxRecDepth 100000 in
set_option maxHeartbeats 8000000 in
theorem critFlags_any (a : Nat) (ha : a < 256) (v : Value) (gs : List Int) (w : World) (hm : Mx w) (hr : RdS w [] 1 v gs.length (gs.map (Value.int .u8))) (hb : ∀ g ∈ gs, 0 ≤ g ∧ g ≤ 255) :
    Calls Tryz.prog 6 #[.int .u8 (a : Int), v] w fun e w' => e = .returned (.bool true) ∧ Below w.heap.size w w' := by
  have hw := fun s W => word_anyL s W
  have hNu := fun n W => numC_any n W
  have hAw := fun W hm => awake_anyL W hm
  obtain ⟨m, hmn⟩ : ∃ m, gs.length = m := ⟨_, rfl⟩
  rw [hmn] at hr
  obtain ⟨A, cap, rfl, hc1, hc2⟩ := hr.form
  have hmb : m ≤ 9223372036854775807 := by
    unfold maxLen at hc2
    omega
  have HR := Lib.hid hr
  have HMN := Lib.hid hmn
  have HGB := Lib.hid hb
  have HM := Lib.hid hm
  clear hr hmn hb
  obtain ⟨f, hf⟩ : ∃ f, a % 5 = f := ⟨_, rfl⟩
  have hf5 : f < 5 := by omega
  have haf : (a : Int) % 5 = (f : Int) := by omega
  by_cases h20 : 20 < m
  · go_enter Tryz.func6, Tryz.ntmps6
    go_wp2_with (first
      | (go_at_call 10; refine (hAw _ HM.out).mono ?_; rintro e w2 ⟨rfl, hb⟩; have HB2 := Lib.hid hb; clear hb)
      | fail)
    go_ret
    exact ⟨rfl, HB2.out⟩
  · go_enter Tryz.func6, Tryz.ntmps6
    go_wp2
    have HF0 : Hid (FlSt w ((w.alloc (.cells lowC 9)).alloc (.cells #[.int .i64 1, .int .i64 0, .string ⟨#[]⟩, .int .i64 0, .slice none 0 0, .slice none 0 0, .int .i64 0, .int .i64 0] 39)) gs 0 (.slice none 0 0) none) := Lib.hid ⟨blk_new2 w _ _ _, (Blk.new w _ _).alloc _, Sl.nil _ _ _, by simp, ((Below.refl _ _).alloc (Nat.le_refl _) _).alloc (by simp) _⟩
    rw [haf]
    obtain ⟨i0, hi, hz0, hz1, hz2⟩ := info_parts Tryz.infoStrF
    have hct : ∀ t : ByteArray, (⟨#[36]⟩ : ByteArray) ++ t = (⟨#[36]⟩ : ByteArray) ++ t := fun _ => rfl
    clear hct
    go_loopw [7, 9] (fun hv iv wr => ∃ (k : Nat) (kv : Value) (hh : Option Nat), k ≤ m ∧ iv = .int .i64 k ∧ hv = .bool (hasF (gs.take k) f) ∧ Hid (FlSt w wr gs k kv hh)) (fun _ iv _ => m - (intOf iv).toNat)
    case atStart => exact ⟨0, _, none, Nat.zero_le _, rfl, rfl, HF0⟩
    case round =>
      obtain ⟨k, kv, hh, hk, rfl, rfl, HU⟩ := hrel
      by_cases hlt : k < m
      · have hke : k < gs.length := by rw [HMN.out]; exact hlt
        obtain ⟨b, off, cap2, hva, _, _, hbl, _, hat⟩ := HR.out.at_ (by omega)
        injection hva with hva1 hva2 hva3
        subst hva1
        clear hva2 hva3
        have hc := hat k (by omega)
        have hg : (gs.map (Value.int .u8))[k]? = some (.int .u8 gs[k]) := by simp [hke]
        rw [hg] at hc
        have d0 : wr.cell? ⟨b, off + k, none⟩ = some (.int .u8 gs[k]) := (HU.out.bel.cell (p := ⟨b, off + k, none⟩) hbl).trans hc
        obtain ⟨hx0, hx1⟩ := HGB.out gs[k] (List.getElem_mem hke)
        have hpush := fun c w2 v' h' => HU.out.push (w2 := w2) (v' := v') (h' := h') hke c
        have hhs := hasF_succ gs f k hke
        obtain ⟨x, hx⟩ : ∃ x, gs[k] = x := ⟨_, rfl⟩
        have HC0 := Lib.hid hc
        rw [hx] at HC0
        rw [hx] at d0 hpush hhs hx0 hx1
        have HPU := Lib.hid hpush
        have hwr : IntKind.i64.wrap x = x := IntWalk.i64_in _ (by omega)
        have htm : x.tmod 5 = x % 5 := Int.tmod_eq_emod_of_nonneg hx0
        have hm0 : 0 ≤ x % 5 := by omega
        have hm1 : x % 5 < 5 := by omega
        have hj5 : x.toNat % 5 < 5 := Nat.mod_lt _ (by decide)
        have e4 : wr.cell? ⟨w.heap.size + 1, 4, none⟩ = some kv := HU.out.mail.cell 4
        have e5 : wr.frozen? ⟨w.heap.size + 1, 4, none⟩ = false := HU.out.mail.frozen 4
        have e6 : wr.cell? ⟨w.heap.size, (x % 5).toNat, none⟩ = some (.string (lowF5 (x.toNat % 5))) := by
          rw [show (x % 5).toNat = x.toNat % 5 by omega]
          exact (HU.out.low.cell _).trans (lowC_at _ hj5)
        have hfs := (flag_sizes _ hj5).2.1
        have hkf : (⟨#[36]⟩ : ByteArray) ++ lowF5 (x.toNat % 5) = keyF5 (x.toNat % 5) := rfl
        obtain ⟨lo, hlo⟩ : ∃ lo, lowF5 (x.toNat % 5) = lo := ⟨_, rfl⟩
        obtain ⟨ky, hky⟩ : ∃ ky, keyF5 (x.toNat % 5) = ky := ⟨_, rfl⟩
        rw [hlo] at e6 hfs hkf
        rw [hky] at hkf HPU
        have hsn : ¬ 9223372036854775807 < 1 + lo.size := by omega
        have hxf : (x.toNat % 5 == f) = (x % 5 == (f : Int)) := by
          by_cases h : x.toNat % 5 = f
          · rw [beq_iff_eq.2 h, beq_iff_eq.2 (by omega)]
          · rw [beq_eq_false_iff_ne.2 h, beq_eq_false_iff_ne.2 (by omega)]
        rw [hxf] at hhs
        have hsl := HU.out.sl
        have hml := HU.out.mail.lt
        have hll := HU.out.low.lt
        have hnin : w.heap.size + 1 ∉ hh.toList := fun hm => by have := HU.out.own _ (by simpa using hm); omega
        have hbl2 : b < wr.heap.size := Nat.lt_of_lt_of_le hbl HU.out.bel.size
        obtain ⟨Ak, ck, rfl, _, _⟩ := hsl.form
        have HSL := Lib.hid hsl
        have HNI := Lib.hid hnin
        clear hat hg hc hx hlo hky hsl hnin hpush HU
        generalize hasF (gs.take k) f = hv at hhs ⊢
        go_upto_region 10 with (fail)
        go_region_law (refine step_append_sl _ (by rfl) (.tmp 39) (.tmp 50) _ (by rfl) Tryz.underlying36 hi hz0 hz1 hz2 rfl (by omega) ((HSL.out.alloc _).heap (by rfl)) (by simp [Act.eval]) wr.heap.size #[.string ky] (e' := 9) (fr := (0, 0)) (heap_alloc_new wr _) 1 1 (by simp [Act.eval]) (by rfl) (by simp [Value.oneCell']) (by unfold maxLen; omega) (by omega) ?_; intro v2 h2 w2 hs2 hc2 ho2; obtain ⟨A2, c2, rfl, _, _⟩ := hs2.form; have hf2 : w2.frozen? ⟨w.heap.size + 1, 4, none⟩ = false := (hc2.frozen (p := ⟨w.heap.size + 1, 4, none⟩) (by simp; omega) HNI.out).trans ((World.frozen?_alloc_past _ _ _ hml).trans e5); have hf3 : w2.cell? ⟨w.heap.size + 1, 4, none⟩ = some (.slice Ak k ck) := (hc2.cell (p := ⟨w.heap.size + 1, 4, none⟩) (by simp; omega) HNI.out).trans ((World.cell?_alloc_past _ _ _ hml).trans e4))
        all_goals
          have hst := HPU.out (.cells #[.string ky] 9) w2 (.slice A2 (k + 1) c2) h2 hs2 ⟨hc2.os, hc2.tape, hc2.output, hc2.size, hc2.block⟩ ho2
          have hd1 : (w2.setCell ⟨w.heap.size + 1, 4, none⟩ (.slice A2 (k + 1) c2)).cell? ⟨b, off + k, none⟩ = some (.int .u8 x) := (hst.bel.cell (p := ⟨b, off + k, none⟩) hbl).trans HC0.out
          have HST := Lib.hid hst
          clear hst hs2 hc2 ho2 hf2 hf3
          generalize w2.setCell ⟨w.heap.size + 1, 4, none⟩ (.slice A2 (k + 1) c2) = w3 at HST hd1 ⊢
          cases hv with
          | true =>
            rw [Bool.true_or] at hhs
            go_wp2
            refine ⟨?_, by simp [intOf]; omega⟩
            first | exact ⟨k + 1, _, h2, by omega, by go_num, by rw [hhs], HST⟩ | ((repeat apply Exists.intro); exact ⟨⟨k + 1, _, h2, by omega, by go_num, by rw [hhs], HST⟩, rfl⟩)
          | false =>
            rw [Bool.false_or] at hhs
            go_wp2
            refine ⟨?_, by simp [intOf]; omega⟩
            first | exact ⟨k + 1, _, h2, by omega, by go_num, by rw [hhs], HST⟩ | ((repeat apply Exists.intro); exact ⟨⟨k + 1, _, h2, by omega, by go_num, by rw [hhs], HST⟩, rfl⟩)
      · have hkm : k = m := by omega
        subst hkm
        have htk : gs.take k = gs := List.take_of_length_le (by rw [HMN.out]; exact Nat.le_refl _)
        have hst := HU.out
        rw [htk]
        obtain ⟨hml, hlw, hsl, _, hbe⟩ := hst
        rw [htk] at hsl
        have hkl : (keysF gs).length = k := by
          unfold keysF
          rw [List.length_map, HMN.out]
        obtain ⟨Ak, ck, rfl, _, _⟩ := hsl.form
        obtain ⟨W0, hW0⟩ : ∃ W0, wr.alloc (.cells upC 9) = W0 := ⟨_, rfl⟩
        have hbU : Below wr.heap.size wr W0 := by rw [← hW0]; exact below_alloc1 wr _
        have hUB : Blk W0 wr.heap.size 9 upC := by rw [← hW0]; exact Blk.new wr _ _
        have HM0 := Lib.hid ((HM.out.below hbe).below hbU)
        obtain ⟨K, hK⟩ : ∃ K, keyF5 f = K := ⟨_, rfl⟩
        have hR1 := flag_readA f hf5
        have hR2 := flag_readB f hf5
        have hR3 := flag_readC f hf5
        have hR4 := flag_readD f hf5
        obtain ⟨hz1, hz2, _⟩ := flag_sizes f hf5
        have hany := keysF_has gs f hf5
        rw [hK] at hR1 hR2 hR3 hR4 hany
        have hup : W0.cell? ⟨wr.heap.size, f, none⟩ = some (.string (upF5 f)) := (hUB.cell f).trans (upC_at f hf5)
        have hlo : wr.cell? ⟨w.heap.size, f, none⟩ = some (.string (lowF5 f)) := (hlw.cell f).trans (lowC_at f hf5)
        obtain ⟨U, hU⟩ : ∃ U, upF5 f = U := ⟨_, rfl⟩
        obtain ⟨L, hL⟩ : ∃ L, lowF5 f = L := ⟨_, rfl⟩
        rw [hU] at hR1 hR2 hR3 hR4 hup hz1
        rw [hL] at hR4 hlo hz2
        obtain ⟨U2, hU2⟩ : ∃ U2, (⟨#[85, 78]⟩ : ByteArray) ++ U = U2 := ⟨_, rfl⟩
        obtain ⟨U3, hU3⟩ : ∃ U3, (⟨#[92]⟩ : ByteArray) ++ U = U3 := ⟨_, rfl⟩
        obtain ⟨U4, hU4⟩ : ∃ U4, (⟨#[117, 110]⟩ : ByteArray) ++ L = U4 := ⟨_, rfl⟩
        have hs2 : U2.size ≤ 1100 := by rw [← hU2, ByteArray.size_append]; show 2 + _ ≤ 1100; omega
        have hs3 : U3.size ≤ 1100 := by rw [← hU3, ByteArray.size_append]; show 1 + _ ≤ 1100; omega
        have hs4 : U4.size ≤ 1100 := by rw [← hU4, ByteArray.size_append]; show 2 + _ ≤ 1100; omega
        rw [hU2] at hR2
        rw [hU3] at hR3
        rw [hU4] at hR4
        have hn2 : ¬ 9223372036854775807 < 2 + U.size := by omega
        have hn3 : ¬ 9223372036854775807 < 1 + U.size := by omega
        have hn4 : ¬ 9223372036854775807 < 2 + L.size := by omega
        have hRd1 : Hid (∀ W, Below W0.heap.size W0 W → Calls Tryz.prog 11 #[.slice (some ⟨W.heap.size, 0, none⟩) 1 1, .int .i64 1, .slice none 0 0] (W.alloc (.cells #[.int .i64 1, .string U, .slice none 0 0] 41)) (RdOut W 2 (flagA K))) := Lib.hid fun W hb => by
          have h := critRead_any (W.alloc (.cells #[.int .i64 1, .string U, .slice none 0 0] 41)) _ (.slice none 0 0) ⟨1, []⟩ (flatW [(1, U)]) (WsAt.lit W 41 [(1, U)] 1 rfl (by decide)) (okL_one (by omega)) (EAt.none ((HM0.out.below hb).below ((Below.refl _ _).alloc (Nat.le_refl _) _)) 1) (by rw [szL_flat]; simp)
          rw [hR1] at h
          exact h.mono fun e w' hh => ROut.known hh (below_alloc1 W _) 2 rfl
        have hRd2 : Hid (∀ W, Below W0.heap.size W0 W → Calls Tryz.prog 11 #[.slice (some ⟨W.heap.size, 0, none⟩) 1 1, .int .i64 1, .slice none 0 0] (W.alloc (.cells #[.int .i64 1, .string U2, .slice none 0 0] 41)) (RdOut W 3 (flagB K))) := Lib.hid fun W hb => by
          have h := critRead_any (W.alloc (.cells #[.int .i64 1, .string U2, .slice none 0 0] 41)) _ (.slice none 0 0) ⟨1, []⟩ (flatW [(1, U2)]) (WsAt.lit W 41 [(1, U2)] 1 rfl (by decide)) (okL_one hs2) (EAt.none ((HM0.out.below hb).below ((Below.refl _ _).alloc (Nat.le_refl _) _)) 1) (by rw [szL_flat]; simp)
          rw [hR2] at h
          exact h.mono fun e w' hh => ROut.known hh (below_alloc1 W _) 3 rfl
        have hRd3 : Hid (∀ W, Below W0.heap.size W0 W → Calls Tryz.prog 11 #[.slice (some ⟨W.heap.size, 0, none⟩) 2 2, .int .i64 1, .slice none 0 0] (W.alloc (.cells #[.int .i64 1, .string ⟨#[107, 101, 121, 119, 111, 114, 100]⟩, .slice none 0 0, .int .i64 1, .string U3, .slice none 0 0] 41)) (RdOut W 2 (flagA K))) := Lib.hid fun W hb => by
          have h := critRead_any (W.alloc (.cells #[.int .i64 1, .string ⟨#[107, 101, 121, 119, 111, 114, 100]⟩, .slice none 0 0, .int .i64 1, .string U3, .slice none 0 0] 41)) _ (.slice none 0 0) ⟨1, []⟩ (flatW [(1, ⟨#[107, 101, 121, 119, 111, 114, 100]⟩), (1, U3)]) (WsAt.lit W 41 [(1, ⟨#[107, 101, 121, 119, 111, 114, 100]⟩), (1, U3)] 2 rfl (by decide)) (okL_two (by decide) hs3) (EAt.none ((HM0.out.below hb).below ((Below.refl _ _).alloc (Nat.le_refl _) _)) 1) (by rw [szL_flat]; simp)
          rw [hR3] at h
          exact h.mono fun e w' hh => ROut.known hh (below_alloc1 W _) 2 rfl
        have hRd4 : Hid (∀ W, Below W0.heap.size W0 W → Calls Tryz.prog 11 #[.slice (some ⟨W.heap.size, 0, none⟩) 3 3, .int .i64 1, .slice none 0 0] (W.alloc (.cells #[.int .i64 1, .string ⟨#[111, 114]⟩, .slice none 0 0, .int .i64 1, .string U, .slice none 0 0, .int .i64 1, .string U4, .slice none 0 0] 41)) (RdOut W 5 (flagD K))) := Lib.hid fun W hb => by
          have h := critRead_any (W.alloc (.cells #[.int .i64 1, .string ⟨#[111, 114]⟩, .slice none 0 0, .int .i64 1, .string U, .slice none 0 0, .int .i64 1, .string U4, .slice none 0 0] 41)) _ (.slice none 0 0) ⟨1, []⟩ (flatW [(1, ⟨#[111, 114]⟩), (1, U), (1, U4)]) (WsAt.lit W 41 [(1, ⟨#[111, 114]⟩), (1, U), (1, U4)] 3 rfl (by decide)) (okL_three (by decide) (by omega) hs4) (EAt.none ((HM0.out.below hb).below ((Below.refl _ _).alloc (Nat.le_refl _) _)) 1) (by rw [szL_flat]; simp)
          rw [hR4] at h
          exact h.mono fun e w' hh => ROut.known hh (below_alloc1 W _) 5 rfl
        have hHo : Hid (∀ (F : Out) (v : Value) (W : World), Below wr.heap.size wr W → FAt W v F → goodF F = true → (∀ t ∈ F, t.kids.length ≤ 1000000) → F.length ≤ 1000 → Calls Tryz.prog 16 #[v, .agg #[.int .i64 1, .int .i64 0, .string ⟨#[]⟩, .int .i64 0, .slice Ak k ck, .slice none 0 0, .int .i64 0, .int .i64 0]] W fun en w' => en = .returned (.bool (HoldsP (emS 0 (keysF gs)) F)) ∧ Below W.heap.size W w') := Lib.hid fun F v W hb hf hg hk hl => by
          have hrd := (hsl.reads [] (by simp)).below hb
          rw [← hkl] at hrd
          have h := holds_keys W (keysF gs) _ hrd F v hf hg hk hl
          rw [hkl] at h
          exact h
        have hPA : HoldsP (emS 0 (keysF gs)) (flagA K) = hasF gs f := (holds_flagA _ K).trans hany
        have hPB : HoldsP (emS 0 (keysF gs)) (flagB K) = !hasF gs f := by rw [← hany]; exact holds_flagB _ K
        have hPD : HoldsP (emS 0 (keysF gs)) (flagD K) = true := holds_flagD _ K
        obtain ⟨hgA, hgB, hgD⟩ := flag_good K
        obtain ⟨hkA, hkB, hkD⟩ := flag_kids K
        have hHA : Hid (∀ (v : Value) (W : World), Below wr.heap.size wr W → FAt W v (flagA K) → Calls Tryz.prog 16 #[v, .agg #[.int .i64 1, .int .i64 0, .string ⟨#[]⟩, .int .i64 0, .slice Ak k ck, .slice none 0 0, .int .i64 0, .int .i64 0]] W fun en w' => en = .returned (.bool (hasF gs f)) ∧ Below W.heap.size W w') := Lib.hid fun v W hb hf => by
          rw [← hPA]; exact hHo.out _ v W hb hf hgA hkA (by simp [flagA])
        have hHB : Hid (∀ (v : Value) (W : World), Below wr.heap.size wr W → FAt W v (flagB K) → Calls Tryz.prog 16 #[v, .agg #[.int .i64 1, .int .i64 0, .string ⟨#[]⟩, .int .i64 0, .slice Ak k ck, .slice none 0 0, .int .i64 0, .int .i64 0]] W fun en w' => en = .returned (.bool (!hasF gs f)) ∧ Below W.heap.size W w') := Lib.hid fun v W hb hf => by
          rw [← hPB]; exact hHo.out _ v W hb hf hgB hkB (by simp [flagB])
        have hHD : Hid (∀ (v : Value) (W : World), Below wr.heap.size wr W → FAt W v (flagD K) → Calls Tryz.prog 16 #[v, .agg #[.int .i64 1, .int .i64 0, .string ⟨#[]⟩, .int .i64 0, .slice Ak k ck, .slice none 0 0, .int .i64 0, .int .i64 0]] W fun en w' => en = .returned (.bool true) ∧ Below W.heap.size W w') := Lib.hid fun v W hb hf => by
          rw [← hPD]; exact hHo.out _ v W hb hf hgD hkD (by simp [flagD])
        have HC : Hid (∀ W, Below W0.heap.size W0 W → W.cell? ⟨wr.heap.size, f, none⟩ = some (.string U) ∧ W.cell? ⟨w.heap.size, f, none⟩ = some (.string L)) := Lib.hid fun W hb => ⟨(hb.cell (p := ⟨wr.heap.size, f, none⟩) hUB.lt).trans hup, (hb.cell (p := ⟨w.heap.size, f, none⟩) (Nat.lt_of_lt_of_le hlw.lt hbU.size)).trans ((hbU.cell (p := ⟨w.heap.size, f, none⟩) hlw.lt).trans hlo)⟩
        have HMB : Hid (∀ W, Below W0.heap.size W0 W → Blk W (w.heap.size + 1) 39 #[.int .i64 1, .int .i64 0, .string ⟨#[]⟩, .int .i64 0, .slice Ak k ck, .slice none 0 0, .int .i64 0, .int .i64 0]) := Lib.hid fun W hb => (hml.below hbU hml.lt).below hb (hml.below hbU hml.lt).lt
        have HBU := Lib.hid hbU
        have HBE := Lib.hid hbe
        have HB0 := Lib.hid (Below.refl W0.heap.size W0)
        have hfi : ((f : Int)).toNat = f := by omega
        have hfg : (0 : Int) ≤ (f : Int) := by omega
        have hfl : (f : Int) < 5 := by omega
        clear hml hlw hsl hbe hbU hHo hPA hPB hPD hgA hgB hgD hkA hkB hkD hR1 hR2 hR3 hR4 hany hup hlo hK hU hL HU htk hkl
        generalize hasF gs f = hv at hHA hHB ⊢
        have hW1 : wr.alloc (.cells #[.string ⟨#[65, 110, 115, 119, 101, 114, 101, 100]⟩, .string ⟨#[68, 69, 76, 69, 84, 69, 68]⟩, .string ⟨#[100, 114, 97, 102, 84]⟩, .string ⟨#[70, 76, 65, 71, 103, 101, 100]⟩, .string ⟨#[83, 69, 69, 78]⟩] 9) = W0 := hW0
        clear hW0 hUB
        go_upto_region 13 with (fail)
        try rw [hW1]
        clear hW1
        have hup0 := (HC.out _ HB0.out).1
        go_upto_region 15 with (first
          | (go_at_call 15; have HG := HB0; refine (hw _ _).mono ?_; rintro e w1 ⟨rfl, hb⟩; have HB1 := Lib.hid (below_then HB0.out hb); clear hb HG HB0)
          | (go_at_call 11; have HG := HB1; refine (hRd1.out _ HB1.out).mono ?_; rintro e w2 ⟨A1, c1, rfl, hf1, hb⟩; have HB2 := Lib.hid (below_then HB1.out hb); have HF1 := Lib.hid hf1; obtain ⟨hup2, _⟩ := HC.out _ HB2.out; clear hb hf1 HG HB1)
          | (go_at_call 15; have HG := HB2; refine (hw _ _).mono ?_; rintro e w3 ⟨rfl, hb⟩; have HB3 := Lib.hid (below_then HB2.out hb); have HF1 := Lib.hid (HF1.out.below hb); clear hb HG HB2)
          | (go_at_call 11; have HG := HB3; refine (hRd2.out _ HB3.out).mono ?_; rintro e w4 ⟨A2, c2, rfl, hf2, hb⟩; have HB4 := Lib.hid (below_then HB3.out hb); have HF1 := Lib.hid (HF1.out.below hb); have HF2 := Lib.hid hf2; clear hb hf2 HG HB3)
          | fail)
        obtain ⟨hup4, hlo4⟩ := HC.out _ HB4.out
        go_region_held3 (fun W => W.cell? ⟨wr.heap.size, f, none⟩ = some (.string U)) (first | exact HS7.out | exact HS6.out | exact HS5.out | go_keep) (first
          | (go_at_call 15; have HG := HB4; refine (hw _ _).mono ?_; rintro e w5 ⟨rfl, hb⟩; have HB5 := Lib.hid (by first | exact below_then HB4.out hb | exact below_then HB4.out (below_drop hb)); have HF1 := Lib.hid (HF1.out.below (by first | exact hb | exact below_drop hb)); have HF2 := Lib.hid (HF2.out.below (by first | exact hb | exact below_drop hb)); have HS5 := Lib.hid ((HC.out _ HB5.out).1); clear hb HG HB4)
          | (go_at_call 15; have HG := HB5; refine (hw _ _).mono ?_; rintro e w6 ⟨rfl, hb⟩; have HB6 := Lib.hid (by first | exact below_then HB5.out hb | exact below_then HB5.out (below_drop hb)); have HF1 := Lib.hid (HF1.out.below (by first | exact hb | exact below_drop hb)); have HF2 := Lib.hid (HF2.out.below (by first | exact hb | exact below_drop hb)); have HS6 := Lib.hid ((HC.out _ HB6.out).1); clear hb HG HB5)
          | (go_at_call 11; have HG := HB6; refine (hRd3.out _ (by first | exact HB6.out | exact below_then HB6.out (below_drew1 _))).mono ?_; rintro e w7 ⟨A3, c3, rfl, hf3, hb⟩; have HB7 := Lib.hid (by first | exact below_then HB6.out hb | exact below_then HB6.out (below_drop hb)); have HF1 := Lib.hid (HF1.out.below (by first | exact hb | exact below_drop hb)); have HF2 := Lib.hid (HF2.out.below (by first | exact hb | exact below_drop hb)); have HS7 := Lib.hid ((HC.out _ HB7.out).1); have HF3 := Lib.hid hf3; clear hb hf3 HG HB6)
          | fail)
        all_goals
          clear HS5 HS6 HS7 hup4 hlo4
          obtain ⟨hup7, hlo7⟩ := HC.out _ HB7.out
          go_upto_region 16 with (fail)
          go_region_held3 (fun W => W.cell? ⟨wr.heap.size, f, none⟩ = some (.string U) ∧ W.cell? ⟨w.heap.size, f, none⟩ = some (.string L)) (first | exact HS11.out | exact HS10.out | exact HS9.out | exact HS8.out | go_keep) (first
            | (go_at_call 15; have HG := HB7; refine (hw _ _).mono ?_; rintro e w8 ⟨rfl, hb⟩; have HB8 := Lib.hid (by first | exact below_then HB7.out hb | exact below_then HB7.out (below_drop hb)); have HF1 := Lib.hid (HF1.out.below (by first | exact hb | exact below_drop hb)); have HF2 := Lib.hid (HF2.out.below (by first | exact hb | exact below_drop hb)); have HF3 := Lib.hid (HF3.out.below (by first | exact hb | exact below_drop hb)); have HS8 := Lib.hid (HC.out _ HB8.out); clear hb HG HB7)
            | (go_at_call 15; have HG := HB8; refine (hw _ _).mono ?_; rintro e w9 ⟨rfl, hb⟩; have HB9 := Lib.hid (by first | exact below_then HB8.out hb | exact below_then HB8.out (below_drop hb)); have HF1 := Lib.hid (HF1.out.below (by first | exact hb | exact below_drop hb)); have HF2 := Lib.hid (HF2.out.below (by first | exact hb | exact below_drop hb)); have HF3 := Lib.hid (HF3.out.below (by first | exact hb | exact below_drop hb)); have HS9 := Lib.hid (HC.out _ HB9.out); clear hb HG HB8)
            | (go_at_call 15; have HG := HB9; refine (hw _ _).mono ?_; rintro e w10 ⟨rfl, hb⟩; have HB10 := Lib.hid (by first | exact below_then HB9.out hb | exact below_then HB9.out (below_drop hb)); have HF1 := Lib.hid (HF1.out.below (by first | exact hb | exact below_drop hb)); have HF2 := Lib.hid (HF2.out.below (by first | exact hb | exact below_drop hb)); have HF3 := Lib.hid (HF3.out.below (by first | exact hb | exact below_drop hb)); have HS10 := Lib.hid (HC.out _ HB10.out); clear hb HG HB9)
            | (go_at_call 11; have HG := HB10; refine (hRd4.out _ (by first | exact HB10.out | exact below_then HB10.out (below_drew1 _))).mono ?_; rintro e w11 ⟨A4, c4, rfl, hf4, hb⟩; have HB11 := Lib.hid (by first | exact below_then HB10.out hb | exact below_then HB10.out (below_drop hb)); have HF1 := Lib.hid (HF1.out.below (by first | exact hb | exact below_drop hb)); have HF2 := Lib.hid (HF2.out.below (by first | exact hb | exact below_drop hb)); have HF3 := Lib.hid (HF3.out.below (by first | exact hb | exact below_drop hb)); have HS11 := Lib.hid (HC.out _ HB11.out); have HF4 := Lib.hid hf4; clear hb hf4 HG HB10)
            | fail)
          all_goals
            clear HS8 HS9 HS10 HS11 hup7 hlo7
            obtain ⟨x0, x1, x2, x3, x4, x5, x6, x7⟩ := mail8B (HMB.out _ HB11.out)
            cases hv <;> go_wp2_with (first
              | (go_at_call 14; refine (hNu _ _).mono ?_; rintro e wn ⟨rfl, rfl⟩)
              | (go_at_call 16; have HG := HB11; refine (hHA.out _ _ (below_then HBU.out HB11.out) HF1.out).mono ?_; rintro e w12 ⟨rfl, hb⟩; have HB12 := Lib.hid (below_then HB11.out hb); have HF2 := Lib.hid (HF2.out.below hb); have HF3 := Lib.hid (HF3.out.below hb); have HF4 := Lib.hid (HF4.out.below hb); obtain ⟨y0, y1, y2, y3, y4, y5, y6, y7⟩ := mail8B (HMB.out _ HB12.out); clear hb HG HB11)
              | (go_at_call 16; have HG := HB12; refine (hHB.out _ _ (below_then HBU.out HB12.out) HF2.out).mono ?_; rintro e w13 ⟨rfl, hb⟩; have HB13 := Lib.hid (below_then HB12.out hb); have HF3 := Lib.hid (HF3.out.below hb); have HF4 := Lib.hid (HF4.out.below hb); obtain ⟨z0, z1, z2, z3, z4, z5, z6, z7⟩ := mail8B (HMB.out _ HB13.out); clear hb HG HB12)
              | (go_at_call 16; have HG := HB13; refine (hHA.out _ _ (below_then HBU.out HB13.out) HF3.out).mono ?_; rintro e w14 ⟨rfl, hb⟩; have HB14 := Lib.hid (below_then HB13.out hb); have HF4 := Lib.hid (HF4.out.below hb); obtain ⟨v0, v1, v2, v3, v4, v5, v6, v7⟩ := mail8B (HMB.out _ HB14.out); clear hb HG HB13)
              | (go_at_call 16; have HG := HB14; refine (hHD.out _ _ (below_then HBU.out HB14.out) HF4.out).mono ?_; rintro e w15 ⟨rfl, hb⟩; have HB15 := Lib.hid (below_then HB14.out hb);  have HMX := Lib.hid (HM0.out.below HB15.out); clear hb HG HB14)
              | (go_at_call 10; refine (hAw _ HMX.out).mono ?_; rintro e w16 ⟨rfl, hb⟩; have HB16 := Lib.hid (below_then HB15.out hb); clear hb)
              | fail)
            all_goals
              go_ret
              exact ⟨rfl, below_then HBE.out (below_then HBU.out HB16.out)⟩

end Go.Proofs.YtnfabgbidkddhaaGreatDoor
