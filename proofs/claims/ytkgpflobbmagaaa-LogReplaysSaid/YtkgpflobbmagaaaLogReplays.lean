/-
  The walk of pillarboxlaw17.LogReplays.
-/
import Derived.Test.YtkgpflobbmagaaaReplayMem
import Derived.Deep.Cut
namespace Go.Proofs.Ytkgpflobbmagaaa
open Go.RowKit
attribute [local go_sem ↓] Go.wp_at_zero Go.wp_at_succ

theorem qs {P : Program} {f : FuncId} {args : Array Value} {w : World} {n : Nat} {v : Value}
    (h : Calls P f args (w.drewN n) fun e w' => e = .returned v ∧ w.drewN n = w') : Calls P f args (w.drewN n) fun e w'' => e = .returned v ∧ ∃ m, w'' = w.drewN m :=
  Calls.quiet_of_same (h.mono fun _ _ ⟨a, b⟩ => ⟨a, b.symm⟩)
theorem since_seg0 (sp : Nat → Nat × Nat) (n p : Nat) (hp : p ≤ n) : LogV.since ⟨1000, rEs sp n, 0⟩ 2 (1 + (p : Int)) ((n : Int) + 1) 0 = ⟨told (seg sp p (n - p)), (n : Int) + 1, false, 0⟩ := by
  rw [show 1 + (p : Int) = (p : Int) + 1 from by omega, since_all _ _ _ _ _ (by decide) (by simp only; omega) (by omega)]
  simp only [rEs_filter sp p ((n : Int) + 1) n (Int.le_refl _)]
theorem RdL.drewN {w : World} {t : Told} {A0 A1 A2 : Option Addr} {p0 p1 p2 : Nat} (q : RdL w t A0 A1 A2 p0 p1 p2) (n : Nat) : RdL (w.drewN n) t A0 A1 A2 p0 p1 p2 := q.below (below_drewN (Below.refl _ _) n)
/-- Memory in the last loop. -/
structure RpE (w wr : World) (g : Nat) (h : Option Nat) (N T O X : Nat) (x : LogV) (nw th old : Mods) (t : Told) (A0 A1 A2 : Option Addr) (p0 p1 p2 : Nat) (st : Int) : Prop where
  s : RpS w wr g h N T O x nw th old
  bX : Blk wr X 46 #[.slice A0 t.made.length p0, .slice A1 t.turned.length p1, .slice A2 t.gone.length p2, .int .i64 st, .bool false]
  rd : RdL wr t A0 A1 A2 p0 p1 p2
theorem RpE.drewN {w wr : World} {g : Nat} {h : Option Nat} {N T O X : Nat} {x : LogV} {nw th old : Mods} {t : Told} {A0 A1 A2 : Option Addr} {p0 p1 p2 : Nat} {st : Int} (q : RpE w wr g h N T O X x nw th old t A0 A1 A2 p0 p1 p2 st) (n : Nat) : RpE w (wr.drewN n) g h N T O X x nw th old t A0 A1 A2 p0 p1 p2 st :=
  ⟨q.s.drewN n, q.bX.heap rfl, q.rd.drewN n⟩
theorem ToldOk.of (sp : Nat → Nat × Nat) (p q : Nat) (h : p ≤ q) : ToldOk sp p q (told (seg sp p (q - p))) := by
  have h1 := toldOk sp p (q - p)
  rw [show p + (q - p) = q from by omega] at h1
  exact h1

theorem RpR.alloc {w wr : World} {g : Nat} {h : Option Nat} {N T : Nat} {x : LogV} {nw th : Mods} (q : RpR w wr g h N T x nw th) (o : Obj) : RpR w (wr.alloc o) g h N T x nw th := q.later ((Below.refl _ _).alloc (Nat.le_refl _) o)
theorem thAt_at (sp : Nat → Nat × Nat) (p : Nat) : thAt sp p (p + 1) = nowAt sp p := by unfold thAt; rw [if_pos (by omega)]
theorem thAt_skip (sp : Nat → Nat × Nat) (p k : Nat) (h : k ≠ p) : thAt sp p (k + 1) = thAt sp p k := by
  unfold thAt
  by_cases h1 : p < k
  · rw [if_pos h1, if_pos (by omega)]
  · rw [if_neg h1, if_neg (by omega)]
theorem howAt_one (sp : Nat → Nat × Nat) (k K : Nat) (hK : (sp k).1 % 16 = K) (h : nowAt sp k K = 0) : howAt sp k = 1 := by
  subst hK
  unfold howAt rHow
  rw [if_pos h]
theorem howAt_three (sp : Nat → Nat × Nat) (k K : Nat) (hK : (sp k).1 % 16 = K) (h : nowAt sp k K ≠ 0) (h3 : (sp k).2 % 3 = 0) : howAt sp k = 3 := by
  subst hK
  unfold howAt rHow
  rw [if_neg h, if_pos h3]
theorem howAt_two (sp : Nat → Nat × Nat) (k K : Nat) (hK : (sp k).1 % 16 = K) (h : nowAt sp k K ≠ 0) (h3 : (sp k).2 % 3 ≠ 0) : howAt sp k = 2 := by
  subst hK
  unfold howAt rHow
  rw [if_neg h, if_neg h3]
theorem rEs_flat (sp : Nat → Nat × Nat) (k K : Nat) (how : Int) (hK : (sp k).1 % 16 = K) (h : howAt sp k = how) :
    (#[.int .i64 ((k : Int) + 1 + 1), .int .i64 2, .int .i64 ((K : Int) + 1), .int .i64 how, .int .i64 ((k : Int) + 1 + 1), .int .i64 1, .int .i64 1, .int .i64 2] : Array Value).toList = flatE [rE2 sp k, rE1 k] := by
  simp only [flatE, List.flatMap_cons, List.flatMap_nil, encE, rE2, rE1, h, hK]
  simp
  omega

theorem RpR.step {w wr : World} {g : Nat} {h : Option Nat} {N T : Nat} {x : LogV} {th : Mods} {sp : Nat → Nat × Nat} {k : Nat} (q : RpR w wr g h N T x (nowAt sp k) th) (K : Nat) (hK16 : K < 16) (hK : (sp k).1 % 16 = K) (h3 : howAt sp k ≠ 3) :
    RpR w (wr.setCell ⟨N, K, none⟩ (.int .i64 ((k : Int) + 1 + 1))) g h N T x (nowAt sp (k + 1)) th := by
  have h1 := q.setN K hK16 ((k : Int) + 1 + 1)
  rw [show (k : Int) + 1 + 1 = (k : Int) + 2 from by omega, nowAt_step sp k K hK h3] at h1
  rw [show (k : Int) + 1 + 1 = (k : Int) + 2 from by omega]
  exact h1
theorem RpR.step3 {w wr : World} {g : Nat} {h : Option Nat} {N T : Nat} {x : LogV} {th : Mods} {sp : Nat → Nat × Nat} {k : Nat} (q : RpR w wr g h N T x (nowAt sp k) th) (K : Nat) (hK16 : K < 16) (hK : (sp k).1 % 16 = K) (h3 : howAt sp k = 3) :
    RpR w ((wr.setCell ⟨N, K, none⟩ (.int .i64 ((k : Int) + 1 + 1))).setCell ⟨N, K, none⟩ (.int .i64 0)) g h N T x (nowAt sp (k + 1)) th := by
  have h1 := (q.setN K hK16 ((k : Int) + 1 + 1)).setN K hK16 0
  rw [show (k : Int) + 1 + 1 = (k : Int) + 2 from by omega, nowAt_step3 sp k K hK h3] at h1
  rw [show (k : Int) + 1 + 1 = (k : Int) + 2 from by omega]
  exact h1

set_option maxRecDepth 100000 in
set_option maxHeartbeats 4000000 in
theorem logReplays_any (A : Option Addr) (n cap f b : Nat) (sp : Nat → Nat × Nat) (hsp : ∀ i, (sp i).1 ≤ 255 ∧ (sp i).2 ≤ 255) (hf : f ≤ 255) (hb : b ≤ 255) (w : World)
    (hA : 0 < n → ∃ b off, A = some ⟨b, off, none⟩ ∧ b < w.heap.size ∧ ∀ i, i < n → w.cell? ⟨b, off + i * 2, none⟩ = some (.int .u8 (sp i).1) ∧ w.cell? ⟨b, off + i * 2 + 1, none⟩ = some (.int .u8 (sp i).2)) :
    Calls Try.prog 5 #[.slice A n cap, .int .u8 f, .int .u8 b] w fun e w' => e = .returned (.bool true) ∧ Below w.heap.size w w' := by
  have hN := fun W n => num_any W n
  have hAw := fun W => awake17_any W
  have HA := Lib.hid hA
  have HSP := Lib.hid hsp
  clear hA hsp
  by_cases hbig : 80 < n
  · go_enter Try.func5, Try.ntmps5
    go_wp2_with (first
      | (go_at_call 18; refine (hAw _).mono ?_; rintro e w1 ⟨rfl, hb⟩; have HBE := Lib.hid hb; clear hb)
      | fail)
    go_ret
    exact ⟨rfl, HBE.out⟩
  · have hn80 : n ≤ 80 := by omega
    clear hbig
    have h1 := new_ok 1000 w (by decide)
    have hp0 : 0 ≤ (f : Int) % ((n : Int) + 1) := Int.emod_nonneg _ (by omega)
    have hp9 : (f : Int) % ((n : Int) + 1) < (n : Int) + 1 := Int.emod_lt_of_pos _ (by omega)
    have hp1 : (f : Int) % ((n : Int) + 1) ≤ 80 := by omega
    obtain ⟨p, hp⟩ : ∃ p : Nat, (f : Int) % ((n : Int) + 1) = p := ⟨((f : Int) % ((n : Int) + 1)).toNat, (Int.toNat_of_nonneg hp0).symm⟩
    have hpn : p ≤ n := by omega
    have HP := Lib.hid hp
    clear hp hp9
    go_enter Try.func5, Try.ntmps5
    go_upto_block 0 with (first
      | (go_at_call 19; refine h1.mono ?_; rintro e w1 ⟨rfl, hl, hb, hlt⟩; have HU := Lib.hid (RpR.start (OwnLog.new hl hb)); clear hl hb h1)
      | (go_at_call 20; refine (hN _ _).mono ?_; rintro e wn ⟨rfl, rfl⟩)
      | fail)
    rw [HP.out]
    clear HP hp0 hp1
    go_cut [12] (fun c wx => c = .int .i64 ((n : Int) + 1) ∧ ∃ h, Hid (RpR w wx w.heap.size h w1.heap.size (w1.heap.size + 1) ⟨1000, rEs sp n, 0⟩ (nowAt sp n) (thAt sp p n)))
    case first =>
      go_wp2_with fail
      go_loopw [12, 13] (fun c i wr => ∃ (k : Nat) (h : Option Nat), k ≤ n ∧ c = .int .i64 ((k : Int) + 1) ∧ i = .int .i64 k ∧ Hid (RpR w wr w.heap.size h w1.heap.size (w1.heap.size + 1) ⟨1000, rEs sp k, 0⟩ (nowAt sp k) (thAt sp p k))) (fun _ i _ => n - (intOf i).toNat)
      case atStart => exact ⟨0, none, Nat.zero_le _, rfl, rfl, HU⟩
      case round =>
        obtain ⟨k, h, hk, rfl, rfl, HV⟩ := hrel
        by_cases hlt : k < n
        · obtain ⟨u1, u2⟩ := HSP.out k
          obtain ⟨ba, off, rfl, hbl, hcell⟩ := HA.out (by omega)
          obtain ⟨k1, k2⟩ := hcell k hlt
          have hbl2 : ba < w1.heap.size := Nat.lt_of_lt_of_le hbl (by omega)
          clear hcell
          go_upto_if 56 with (fail)
          go_cut [] (fun wx => Hid (RpR w wx w.heap.size h w1.heap.size (w1.heap.size + 1) ⟨1000, rEs sp k, 0⟩ (nowAt sp k) (thAt sp p (k + 1))))
          case first =>
            by_cases hkp : k = p
            · have hq : ((k : Int) + 1 == 1 + (p : Int)) = true := by rw [beq_iff_eq]; omega
              have HE := Lib.hid (HV.out.row)
              have HT := Lib.hid (show nowAt sp k = thAt sp p (k + 1) by rw [hkp, thAt_at])
              clear hkp
              go_wp2_with (first
                | (refine wpList_load_row rfl 37 (.tmp 9) rfl w1.heap.size rfl 37 (arr16 (nowAt sp k)) (0, 0) _ HV.out.bN Try.underlying37 rfl (Try.size16 _) ?_)
                | (refine wpList_store_row rfl 37 (.tmp 10) (.tmp 57) rfl (w1.heap.size + 1) (arr16 (nowAt sp k)) rfl rfl 37 (arr16 (thAt sp p k)) HV.out.bT (Try.size16 _) (by rw [arr16_size, arr16_size]) (arr16_one _) ?_)
                | fail)
              go_meet
              exact Lib.hid (HT.out ▸ HE.out)
            · have hq : ((k : Int) + 1 == 1 + (p : Int)) = false := by rw [beq_eq_false_iff_ne]; omega
              have HE : Hid (RpR w wr w.heap.size h w1.heap.size (w1.heap.size + 1) ⟨1000, rEs sp k, 0⟩ (nowAt sp k) (thAt sp p (k + 1))) := Lib.hid (by rw [thAt_skip sp p k hkp]; exact HV.out)
              clear hkp
              go_wp2_with fail
              go_meet
              exact HE
          case rest =>
            have HX := Lib.hid hcut.out
            clear hcut HV
            have hbel := HX.out.log.below
            have d0 : wc.cell? ⟨ba, off + k * 2, none⟩ = some (.int .u8 (sp k).1) := (hbel.cell (p := ⟨ba, off + k * 2, none⟩) hbl).trans k1
            have d1 : wc.cell? ⟨ba, off + k * 2 + 1, none⟩ = some (.int .u8 (sp k).2) := (hbel.cell (p := ⟨ba, off + k * 2 + 1, none⟩) hbl).trans k2
            clear hbel k1 k2
            go_upto_region 17 with (fail)
            obtain ⟨K, hK⟩ : ∃ K, (sp k).1 % 16 = K := ⟨_, rfl⟩
            have hKi : ((sp k).1 : Int) % 16 = (K : Int) := by omega
            have hK16 : K < 16 := by omega
            rw [hKi]
            have n0 : wc.cell? ⟨w1.heap.size, K, none⟩ = some (.int .i64 (nowAt sp k K)) := by rw [HX.out.bN.cell K, arr16_get _ K hK16]
            have HK := Lib.hid hK
            clear hK hKi
            by_cases c0 : nowAt sp k K = 0
            · have e0 : (nowAt sp k K == 0) = true := by simpa using c0
              have hh := howAt_one sp k K HK.out c0
              have hA1 := addC HX.out.log [rE2 sp k, rE1 k] 2 2 #[.int .i64 ((k : Int) + 1 + 1), .int .i64 2, .int .i64 ((K : Int) + 1), .int .i64 1, .int .i64 ((k : Int) + 1 + 1), .int .i64 1, .int .i64 1, .int .i64 2] _ (rEs_add sp k (by omega)) rfl (rEs_flat sp k K 1 HK.out hh) (show (1 : Int) ≤ 1000 by decide) (show (1000 : Int) ≤ 1099511627776 by decide) (by simp only [rEs_length]; omega) (by decide)
              have HST := fun W h' (q : RpR w W w.heap.size h' w1.heap.size (w1.heap.size + 1) ⟨1000, rEs sp (k + 1), 0⟩ (nowAt sp k) (thAt sp p (k + 1))) => Lib.hid (q.step K hK16 HK.out (by rw [hh]; decide))
              clear hh c0
              go_wp2_with (first
                | (go_at_call 21; refine hA1.mono ?_; rintro e w3 ⟨rfl, h', hq, hc, _⟩; have HY := Lib.hid (HX.out.add hq hc); have y0 := (HY.out.bN.cell K).trans (arr16_get _ K hK16); have hf0 := HY.out.bN.frozen K; clear hq hc hA1)
                | fail)
              have HZ := HST _ _ HY.out
              refine ⟨?_, by simp [intOf]; omega⟩
              first | exact ⟨k + 1, _, by omega, by go_num, by go_num, HZ⟩ | ((repeat apply Exists.intro); exact ⟨⟨k + 1, _, by omega, by go_num, by go_num, HZ⟩, rfl⟩)
            · have e0 : (nowAt sp k K == 0) = false := by simpa using c0
              by_cases c3 : (sp k).2 % 3 = 0
              · have e3 : (((sp k).2 : Int) % 3 == 0) = true := by rw [beq_iff_eq]; omega
                have hh := howAt_three sp k K HK.out c0 c3
                have hA1 := addC HX.out.log [rE2 sp k, rE1 k] 2 2 #[.int .i64 ((k : Int) + 1 + 1), .int .i64 2, .int .i64 ((K : Int) + 1), .int .i64 3, .int .i64 ((k : Int) + 1 + 1), .int .i64 1, .int .i64 1, .int .i64 2] _ (rEs_add sp k (by omega)) rfl (rEs_flat sp k K 3 HK.out hh) (show (1 : Int) ≤ 1000 by decide) (show (1000 : Int) ≤ 1099511627776 by decide) (by simp only [rEs_length]; omega) (by decide)
                have HST := fun W h' (q : RpR w W w.heap.size h' w1.heap.size (w1.heap.size + 1) ⟨1000, rEs sp (k + 1), 0⟩ (nowAt sp k) (thAt sp p (k + 1))) => Lib.hid (q.step3 K hK16 HK.out hh)
                clear hh c0 c3
                go_wp2_with (first
                  | (go_at_call 21; refine hA1.mono ?_; rintro e w3 ⟨rfl, h', hq, hc, _⟩; have HY := Lib.hid (HX.out.add hq hc); have y0 := (HY.out.bN.cell K).trans (arr16_get _ K hK16); have hf0 := HY.out.bN.frozen K; clear hq hc hA1)
                  | fail)
                have HZ := HST _ _ HY.out
                refine ⟨?_, by simp [intOf]; omega⟩
                first | exact ⟨k + 1, _, by omega, by go_num, by go_num, HZ⟩ | ((repeat apply Exists.intro); exact ⟨⟨k + 1, _, by omega, by go_num, by go_num, HZ⟩, rfl⟩)
              · have e3 : (((sp k).2 : Int) % 3 == 0) = false := by rw [beq_eq_false_iff_ne]; omega
                have hh := howAt_two sp k K HK.out c0 c3
                have hA1 := addC HX.out.log [rE2 sp k, rE1 k] 2 2 #[.int .i64 ((k : Int) + 1 + 1), .int .i64 2, .int .i64 ((K : Int) + 1), .int .i64 2, .int .i64 ((k : Int) + 1 + 1), .int .i64 1, .int .i64 1, .int .i64 2] _ (rEs_add sp k (by omega)) rfl (rEs_flat sp k K 2 HK.out hh) (show (1 : Int) ≤ 1000 by decide) (show (1000 : Int) ≤ 1099511627776 by decide) (by simp only [rEs_length]; omega) (by decide)
                have HST := fun W h' (q : RpR w W w.heap.size h' w1.heap.size (w1.heap.size + 1) ⟨1000, rEs sp (k + 1), 0⟩ (nowAt sp k) (thAt sp p (k + 1))) => Lib.hid (q.step K hK16 HK.out (by rw [hh]; decide))
                clear hh c0 c3
                go_wp2_with (first
                  | (go_at_call 21; refine hA1.mono ?_; rintro e w3 ⟨rfl, h', hq, hc, _⟩; have HY := Lib.hid (HX.out.add hq hc); have y0 := (HY.out.bN.cell K).trans (arr16_get _ K hK16); have hf0 := HY.out.bN.frozen K; clear hq hc hA1)
                  | fail)
                have HZ := HST _ _ HY.out
                refine ⟨?_, by simp [intOf]; omega⟩
                first | exact ⟨k + 1, _, by omega, by go_num, by go_num, HZ⟩ | ((repeat apply Exists.intro); exact ⟨⟨k + 1, _, by omega, by go_num, by go_num, HZ⟩, rfl⟩)
        · have hkn : k = n := by omega
          subst hkn
          go_wp2_with fail
          go_meet
          exact ⟨rfl, _, HV⟩
    case rest =>
      obtain ⟨rfl, h, HR⟩ := hcut
      clear HU HA HSP
      go_upto_if 97 with (fail)
      go_cut [] (fun wx => Hid (RpR w wx w.heap.size h w1.heap.size (w1.heap.size + 1) ⟨1000, rEs sp n, 0⟩ (nowAt sp n) (nowAt sp p)))
      case first =>
        by_cases hnp : n = p
        · have hq : ((n : Int) + 1 == 1 + (p : Int)) = true := by rw [beq_iff_eq]; omega
          have HE := Lib.hid (HR.out.row)
          have HT := Lib.hid (show nowAt sp n = nowAt sp p by rw [hnp])
          clear hnp
          go_wp2_with (first
            | (refine wpList_load_row rfl 37 (.tmp 9) rfl w1.heap.size rfl 37 (arr16 (nowAt sp n)) (0, 0) _ HR.out.bN Try.underlying37 rfl (Try.size16 _) ?_)
            | (refine wpList_store_row rfl 37 (.tmp 10) (.tmp 98) rfl (w1.heap.size + 1) (arr16 (nowAt sp n)) rfl rfl 37 (arr16 (thAt sp p n)) HR.out.bT (Try.size16 _) (by rw [arr16_size, arr16_size]) (arr16_one _) ?_)
            | fail)
          go_meet
          refine Lib.hid ?_
          have h5 := HE.out
          rw [HT.out] at h5 ⊢
          exact h5
        · have hq : ((n : Int) + 1 == 1 + (p : Int)) = false := by rw [beq_eq_false_iff_ne]; omega
          have HE : Hid (RpR w wc w.heap.size h w1.heap.size (w1.heap.size + 1) ⟨1000, rEs sp n, 0⟩ (nowAt sp n) (nowAt sp p)) := Lib.hid (by
            have h5 := HR.out
            unfold thAt at h5
            rw [if_pos (by omega)] at h5
            exact h5)
          clear hnp
          go_wp2_with fail
          go_meet
          exact HE
      case rest =>
        have HR2 := Lib.hid hcut.out
        clear hcut HR
        obtain ⟨wo, rfl⟩ : ∃ wo : World, wo = wc := ⟨_, rfl⟩
        go_upto_block 2 with (first
          | (refine wpList_load_row rfl 37 (.tmp 10) rfl (w1.heap.size + 1) rfl 37 (arr16 (nowAt sp p)) (0, 0) _ HR2.out.bT Try.underlying37 rfl (Try.size16 _) ?_)
          | (refine wpList_store_row rfl 37 (.tmp 16) (.tmp 99) rfl wo.heap.size (arr16 (nowAt sp p)) rfl rfl 37 (arr16 fun _ => 0) (Blk.new _ _ _) (Try.size16 _) (by rw [arr16_size, arr16_size]) (arr16_one _) ?_)
          | fail)
        go_cut [17] (fun a wx => a = .int .i64 ((n : Int) + 1) ∧ ∃ th, Hid (Agree sp n th ∧ RpS w wx w.heap.size h w1.heap.size (w1.heap.size + 1) wo.heap.size ⟨1000, rEs sp n, 0⟩ (nowAt sp n) th (nowAt sp p)))
        case first =>
          have HS : Hid (RpS w _ w.heap.size h w1.heap.size (w1.heap.size + 1) wo.heap.size ⟨1000, rEs sp n, 0⟩ (nowAt sp n) (nowAt sp p) (nowAt sp p)) := Lib.hid HR2.out.kept
          clear HR2
          go_wp2_with fail
          go_loopw [17, 18] (fun a i wr => ∃ (q j : Nat) (th : Mods), p ≤ q ∧ q ≤ n ∧ j ≤ q - p ∧ a = .int .i64 ((q : Int) + 1) ∧ i = .int .i64 j ∧ Hid (Agree sp q th ∧ RpS w wr w.heap.size h w1.heap.size (w1.heap.size + 1) wo.heap.size ⟨1000, rEs sp n, 0⟩ (nowAt sp n) th (nowAt sp p))) (fun _ i _ => n + 2 - (intOf i).toNat)
          case atStart => exact ⟨p, 0, _, Nat.le_refl _, hpn, by omega, by go_num, rfl, Lib.hid ⟨Agree.start sp p, HS.out⟩⟩
          case round =>
            obtain ⟨q, j, th, hpq, hqn, hjq, rfl, rfl, HV⟩ := hrel
            obtain ⟨q2, hq1, hq2, hq3, hans⟩ := since_seg sp n q ((b : Int) % 5) hqn
            have hto := ToldOk.of sp q q2 hq1
            generalize told (seg sp q (q2 - q)) = t at hans hto
            have HF := Lib.hid (HV.out.1.fits hto)
            have HAG := Lib.hid (HV.out.1.apply (st := (q2 : Int) + 1) hto (by omega))
            clear hto
            by_cases hm : q2 < n
            · rw [decide_eq_true hm] at hans
              have hS := sinceO HV.out.2.r.log 2 ((q : Int) + 1) ((n : Int) + 1) ((b : Int) % 5) (by simp only [rEs_length]; omega) t ((q2 : Int) + 1) 0 true hans
              have hT := HV.out.2.r.bT.lt
              have HVA := fun wz hb A0 A1 A2 p0 p1 p2 => Lib.hid ((HV.out.2.later (w' := wz) hb).alloc (.cells #[.slice A0 t.made.length p0, .slice A1 t.turned.length p1, .slice A2 t.gone.length p2, .int .i64 ((q2 : Int) + 1), .bool true] 46))
              clear hans
              go_wp2_with (first
                | (go_at_call 22; refine hS.mono ?_; rintro e w5 ⟨A0, A1, A2, p0, p1, p2, rfl, hq, hb, hli⟩; have HS5 := HVA _ hb A0 A1 A2 p0 p1 p2; have HL5 := Lib.hid ((hli.readsM hT).alloc (.cells #[.slice A0 t.made.length p0, .slice A1 t.turned.length p1, .slice A2 t.gone.length p2, .int .i64 ((q2 : Int) + 1), .bool true] 46)); have hwl := hb.size; have HX5 := Lib.hid (Blk.new w5 46 #[.slice A0 t.made.length p0, .slice A1 t.turned.length p1, .slice A2 t.gone.length p2, .int .i64 ((q2 : Int) + 1), .bool true]); clear hq hb hli hS HVA)
                | (go_at_call 20; refine (hN _ _).mono ?_; rintro e wn ⟨rfl, rfl⟩)
                | fail)
              refine (apply_any _ (w1.heap.size + 1) th t A0 A1 A2 p0 p1 p2 ((q2 : Int) + 1) true _ HS5.out.r.bT HL5.out HF.out).mono ?_
              rintro e w6 ⟨rfl, hB, hc⟩
              have HS6 := Lib.hid (HS5.out.applied hB hc)
              have hX := HX5.out.chg hc (by simp; omega)
              have x3 := hX.cell 3
              have x4 := hX.cell 4
              have hxl := hX.lt
              clear hB hc hX
              go_wp2_with fail
              have HZ := Lib.hid (And.intro HAG.out HS6.out)
              refine ⟨?_, by simp [intOf]; omega⟩
              first | exact ⟨q2, j + 1, _, by omega, by omega, by omega, by go_num, by go_num, HZ⟩ | ((repeat apply Exists.intro); exact ⟨⟨q2, j + 1, _, by omega, by omega, by omega, by go_num, by go_num, HZ⟩, rfl⟩)
            · rw [decide_eq_false hm] at hans
              have HQN := Lib.hid (show q2 = n by omega)
              have hS := sinceO HV.out.2.r.log 2 ((q : Int) + 1) ((n : Int) + 1) ((b : Int) % 5) (by simp only [rEs_length]; omega) t ((q2 : Int) + 1) 0 false hans
              have hT := HV.out.2.r.bT.lt
              have HVA := fun wz hb A0 A1 A2 p0 p1 p2 => Lib.hid ((HV.out.2.later (w' := wz) hb).alloc (.cells #[.slice A0 t.made.length p0, .slice A1 t.turned.length p1, .slice A2 t.gone.length p2, .int .i64 ((q2 : Int) + 1), .bool false] 46))
              clear hans
              go_wp2_with (first
                | (go_at_call 22; refine hS.mono ?_; rintro e w5 ⟨A0, A1, A2, p0, p1, p2, rfl, hq, hb, hli⟩; have HS5 := HVA _ hb A0 A1 A2 p0 p1 p2; have HL5 := Lib.hid ((hli.readsM hT).alloc (.cells #[.slice A0 t.made.length p0, .slice A1 t.turned.length p1, .slice A2 t.gone.length p2, .int .i64 ((q2 : Int) + 1), .bool false] 46)); have hwl := hb.size; have HX5 := Lib.hid (Blk.new w5 46 #[.slice A0 t.made.length p0, .slice A1 t.turned.length p1, .slice A2 t.gone.length p2, .int .i64 ((q2 : Int) + 1), .bool false]); clear hq hb hli hS HVA)
                | (go_at_call 20; refine (hN _ _).mono ?_; rintro e wn ⟨rfl, rfl⟩)
                | fail)
              refine (apply_any _ (w1.heap.size + 1) th t A0 A1 A2 p0 p1 p2 ((q2 : Int) + 1) false _ HS5.out.r.bT HL5.out HF.out).mono ?_
              rintro e w6 ⟨rfl, hB, hc⟩
              have HS6 := Lib.hid (HS5.out.applied hB hc)
              have hX := HX5.out.chg hc (by simp; omega)
              have x3 := hX.cell 3
              have x4 := hX.cell 4
              have hxl := hX.lt
              clear hB hc hX
              go_wp2_with fail
              go_meet
              exact ⟨by rw [HQN.out], _, Lib.hid (And.intro (HQN.out ▸ HAG.out) HS6.out)⟩
        case rest =>
          obtain ⟨rfl, th, HS⟩ := hcut
          have HAG := Lib.hid HS.out.1
          have HR := Lib.hid HS.out.2
          clear HS HR2
          go_wp2_with fail
          go_loopw [21] (fun i wr => ∃ k : Nat, k ≤ 16 ∧ i = .int .i64 k ∧ Hid (RpS w wr w.heap.size h w1.heap.size (w1.heap.size + 1) wo.heap.size ⟨1000, rEs sp n, 0⟩ (nowAt sp n) th (nowAt sp p))) (fun i _ => 16 - (intOf i).toNat)
          case atStart => exact ⟨0, by omega, rfl, HR⟩
          case round =>
            obtain ⟨k, hk, rfl, HV⟩ := hrel
            by_cases hlt : k < 16
            · have t0 : wr.cell? ⟨w1.heap.size + 1, k, none⟩ = some (.int .i64 (th k)) := (HV.out.r.bT.cell k).trans (arr16_get _ k hlt)
              have n0 : wr.cell? ⟨w1.heap.size, k, none⟩ = some (.int .i64 (nowAt sp n k)) := (HV.out.r.bN.cell k).trans (arr16_get _ k hlt)
              have a0 := HAG.out.nn k hlt
              have a1 := HAG.out.iff k hlt
              have a2 := nowAt_nonneg sp n k
              generalize th k = x at t0 a0 a1
              generalize nowAt sp n k = y at n0 a1 a2
              by_cases hx : x = 0
              · have b0 : decide (0 < x) = false := decide_eq_false (by omega)
                have b1 : decide (0 < y) = false := decide_eq_false (by have := a1.1 hx; omega)
                clear a0 a1 a2 hx
                go_wp2_with fail
                go_quiet (fail)
                go_wp2_with fail
                have HZ := Lib.hid (HV.out.drewN nq)
                refine ⟨?_, by simp [intOf]; omega⟩
                first | exact ⟨k + 1, by omega, by go_num, HZ⟩ | ((repeat apply Exists.intro); exact ⟨⟨k + 1, by omega, by go_num, HZ⟩, rfl⟩)
              · have b0 : decide (0 < x) = true := decide_eq_true (by omega)
                have b1 : decide (0 < y) = true := decide_eq_true (by have := mt a1.2 hx; omega)
                clear a0 a1 a2 hx
                go_wp2_with fail
                go_quiet (fail)
                go_wp2_with fail
                have HZ := Lib.hid (HV.out.drewN nq)
                refine ⟨?_, by simp [intOf]; omega⟩
                first | exact ⟨k + 1, by omega, by go_num, HZ⟩ | ((repeat apply Exists.intro); exact ⟨⟨k + 1, by omega, by go_num, HZ⟩, rfl⟩)
            · have hk16 : k = 16 := by omega
              subst hk16
              have hans := since_seg0 sp n p hpn
              have hto := ToldOk.of sp p n hpn
              generalize told (seg sp p (n - p)) = t at hans hto
              have HTO := Lib.hid hto
              have hS := sinceO HV.out.r.log 2 (1 + (p : Int)) ((n : Int) + 1) 0 (by simp only [rEs_length]; omega) t ((n : Int) + 1) 0 false hans
              have HVA := fun wz hb => (HV.out.later (w' := wz) hb)
              have HVA' := Lib.hid HVA
              clear hans hto HVA
              go_wp2_with (first
                | (go_at_call 22; refine hS.mono ?_; rintro e w5 ⟨A0, A1, A2, p0, p1, p2, rfl, hq, hb, hli⟩; have HE := Lib.hid (RpE.mk ((HVA'.out _ hb).alloc (.cells #[.slice A0 t.made.length p0, .slice A1 t.turned.length p1, .slice A2 t.gone.length p2, .int .i64 ((n : Int) + 1), .bool false] 46)) (Blk.new w5 46 #[.slice A0 t.made.length p0, .slice A1 t.turned.length p1, .slice A2 t.gone.length p2, .int .i64 ((n : Int) + 1), .bool false]) (hli.reads.alloc _)); clear hq hb hli hS HVA')
                | fail)
              generalize w5.alloc (.cells #[.slice A0 t.made.length p0, .slice A1 t.turned.length p1, .slice A2 t.gone.length p2, .int .i64 ((n : Int) + 1), .bool false] 46) = W6 at HE ⊢
              generalize w5.heap.size = X at HE ⊢
              go_loopw [24] (fun i wr => ∃ k : Nat, k ≤ 16 ∧ i = .int .i64 k ∧ Hid (RpE w wr w.heap.size h w1.heap.size (w1.heap.size + 1) wo.heap.size X ⟨1000, rEs sp n, 0⟩ (nowAt sp n) th (nowAt sp p) t A0 A1 A2 p0 p1 p2 ((n : Int) + 1))) (fun i _ => 16 - (intOf i).toNat)
              case atStart => exact ⟨0, by omega, rfl, HE⟩
              case round =>
                obtain ⟨k, hk, rfl, HV⟩ := hrel
                by_cases hlt : k < 16
                · have o0 : wr.cell? ⟨wo.heap.size, k, none⟩ = some (.int .i64 (nowAt sp p k)) := (HV.out.s.bO.cell k).trans (arr16_get _ k hlt)
                  have n0 : wr.cell? ⟨w1.heap.size, k, none⟩ = some (.int .i64 (nowAt sp n k)) := (HV.out.s.r.bN.cell k).trans (arr16_get _ k hlt)
                  have x0 := HV.out.bX.cell 0
                  have x1 := HV.out.bX.cell 1
                  have x2 := HV.out.bX.cell 2
                  have a0 := HTO.out.made k hlt
                  have a1 := HTO.out.turned k hlt
                  have a2 := HTO.out.gone k hlt
                  have a3 := HTO.out.none_ k hlt
                  generalize nowAt sp p k = x at o0 a0 a1 a2 a3
                  generalize nowAt sp n k = y at n0 a0 a1 a2 a3
                  have H0 := Lib.hid (fun (b : Bool) (hb : decide ((k : Int) + 1 ∈ t.made) = b) (_ : Unit) => hb ▸ within17_any wr (.slice A0 t.made.length p0) t.made.length t.made ((k : Int) + 1) rfl HV.out.rd.r0)
                  have H1 := Lib.hid (fun (b : Bool) (hb : decide ((k : Int) + 1 ∈ t.turned) = b) (_ : Unit) => hb ▸ within17_any wr (.slice A1 t.turned.length p1) t.turned.length t.turned ((k : Int) + 1) rfl HV.out.rd.r1)
                  have H2 := Lib.hid (fun (b : Bool) (hb : decide ((k : Int) + 1 ∈ t.gone) = b) (_ : Unit) => hb ▸ within17_any wr (.slice A2 t.gone.length p2) t.gone.length t.gone ((k : Int) + 1) rfl HV.out.rd.r2)
                  have Q0 := Lib.hid (fun (b : Bool) (hb : decide ((k : Int) + 1 ∈ t.made) = b) (m : Nat) => hb ▸ within17_any (wr.drewN m) (.slice A0 t.made.length p0) t.made.length t.made ((k : Int) + 1) rfl (HV.out.rd.drewN m).r0)
                  by_cases c0 : (k : Int) + 1 ∈ t.made
                  · have e1 : (x == 0) = true := by simpa using (a0 c0).1
                    have e2 : (y == 0) = false := by simpa using (a0 c0).2
                    have e3 : (x != 0) = false := by simpa using (a0 c0).1
                    have g0 := H0.out true (decide_eq_true c0)
                    have g1 := H1.out (decide ((k : Int) + 1 ∈ t.turned)) rfl
                    have g2 := H2.out (decide ((k : Int) + 1 ∈ t.gone)) rfl
                    have q0 := Q0.out true (decide_eq_true c0)
                    clear a0 a1 a2 a3 c0
                    go_wp2_with (first
                      | (go_at_call 24; with_reducible refine (g0 ()).mono ?_; rintro e w' ⟨rfl, rfl⟩)
                      | (go_at_call 24; with_reducible refine (g1 ()).mono ?_; rintro e w' ⟨rfl, rfl⟩)
                      | (go_at_call 24; with_reducible refine (g2 ()).mono ?_; rintro e w' ⟨rfl, rfl⟩)
                      | fail)
                    go_quiet ((first | (go_at_call 20; exact qs (hN _ _)) | (go_at_call 24; exact qs (q0 _))))
                    go_wp2_with fail
                    have HZ := Lib.hid (HV.out.drewN nq)
                    refine ⟨?_, by simp [intOf]; omega⟩
                    first | exact ⟨k + 1, by omega, by go_num, HZ⟩ | ((repeat apply Exists.intro); exact ⟨⟨k + 1, by omega, by go_num, HZ⟩, rfl⟩)
                  · by_cases c1 : (k : Int) + 1 ∈ t.turned
                    · have e1 : (x == 0) = false := by simpa using (a1 c1).1
                      have e2 : (y == 0) = false := by simpa using (a1 c1).2
                      have g0 := H0.out false (decide_eq_false c0)
                      have g1 := H1.out true (decide_eq_true c1)
                      have g2 := H2.out (decide ((k : Int) + 1 ∈ t.gone)) rfl
                      have q0 := Q0.out false (decide_eq_false c0)
                      clear a0 a1 a2 a3 c0 c1
                      go_wp2_with (first
                        | (go_at_call 24; with_reducible refine (g0 ()).mono ?_; rintro e w' ⟨rfl, rfl⟩)
                        | (go_at_call 24; with_reducible refine (g1 ()).mono ?_; rintro e w' ⟨rfl, rfl⟩)
                        | (go_at_call 24; with_reducible refine (g2 ()).mono ?_; rintro e w' ⟨rfl, rfl⟩)
                        | fail)
                      go_quiet ((first | (go_at_call 20; exact qs (hN _ _)) | (go_at_call 24; exact qs (q0 _))))
                      go_wp2_with fail
                      have HZ := Lib.hid (HV.out.drewN nq)
                      refine ⟨?_, by simp [intOf]; omega⟩
                      first | exact ⟨k + 1, by omega, by go_num, HZ⟩ | ((repeat apply Exists.intro); exact ⟨⟨k + 1, by omega, by go_num, HZ⟩, rfl⟩)
                    · by_cases c2 : (k : Int) + 1 ∈ t.gone
                      · have e1 : (x == 0) = false := by simpa using (a2 c2).1
                        have e2 : (y == 0) = true := by simpa using (a2 c2).2
                        have g0 := H0.out false (decide_eq_false c0)
                        have g1 := H1.out false (decide_eq_false c1)
                        have g2 := H2.out true (decide_eq_true c2)
                        have q0 := Q0.out false (decide_eq_false c0)
                        clear a0 a1 a2 a3 c0 c1 c2
                        go_wp2_with (first
                          | (go_at_call 24; with_reducible refine (g0 ()).mono ?_; rintro e w' ⟨rfl, rfl⟩)
                          | (go_at_call 24; with_reducible refine (g1 ()).mono ?_; rintro e w' ⟨rfl, rfl⟩)
                          | (go_at_call 24; with_reducible refine (g2 ()).mono ?_; rintro e w' ⟨rfl, rfl⟩)
                          | fail)
                        go_quiet ((first | (go_at_call 20; exact qs (hN _ _)) | (go_at_call 24; exact qs (q0 _))))
                        go_wp2_with fail
                        have HZ := Lib.hid (HV.out.drewN nq)
                        refine ⟨?_, by simp [intOf]; omega⟩
                        first | exact ⟨k + 1, by omega, by go_num, HZ⟩ | ((repeat apply Exists.intro); exact ⟨⟨k + 1, by omega, by go_num, HZ⟩, rfl⟩)
                      · have hxy : x = y := by
                          rcases a3 c0 c1 c2 with h9 | ⟨h8, h9⟩
                          · exact h9.symm
                          · rw [h8, h9]
                        have e3 : (x != y) = false := by simpa using hxy
                        clear hxy
                        have g0 := H0.out false (decide_eq_false c0)
                        have g1 := H1.out false (decide_eq_false c1)
                        have g2 := H2.out false (decide_eq_false c2)
                        have q0 := Q0.out false (decide_eq_false c0)
                        clear a0 a1 a2 a3 c0 c1 c2
                        go_wp2_with (first
                          | (go_at_call 24; with_reducible refine (g0 ()).mono ?_; rintro e w' ⟨rfl, rfl⟩)
                          | (go_at_call 24; with_reducible refine (g1 ()).mono ?_; rintro e w' ⟨rfl, rfl⟩)
                          | (go_at_call 24; with_reducible refine (g2 ()).mono ?_; rintro e w' ⟨rfl, rfl⟩)
                          | fail)
                        go_quiet ((first | (go_at_call 20; exact qs (hN _ _)) | (go_at_call 24; exact qs (q0 _))))
                        go_wp2_with fail
                        have HZ := Lib.hid (HV.out.drewN nq)
                        refine ⟨?_, by simp [intOf]; omega⟩
                        first | exact ⟨k + 1, by omega, by go_num, HZ⟩ | ((repeat apply Exists.intro); exact ⟨⟨k + 1, by omega, by go_num, HZ⟩, rfl⟩)
                · have hb0 := HV.out.s.r.log.below
                  have HB0 := Lib.hid hb0
                  clear hb0
                  go_wp2_with (first
                    | (go_at_call 18; refine (hAw _).mono ?_; rintro e w8 ⟨rfl, hb⟩; have HBE := Lib.hid (bthen' HB0.out hb); clear hb)
                    | fail)
                  go_ret
                  exact ⟨rfl, HBE.out⟩

end Go.Proofs.Ytkgpflobbmagaaa
