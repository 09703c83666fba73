/-
  The walk of pillarboxlaw18.StoreLogs.
-/
import Derived.Test.YtmbibhphpjmboaaGreatDoorLogsW0M
import Derived.Test.YtmbibhphpjmboaaGreatDoorRefusesWM
import Derived.Test.YtmbibhphpjmboaaGreatDoorUidsW0M
import Derived.Deep.QuietTactic
import Derived.BigQuiet
import Derived.Deep.DeepCutAuto
import Derived.Deep.CutBlock
import Derived.Deep.RegionHeld3
namespace Go.Proofs.YtmbibhphpjmboaaGreatDoor
open Go.Shelf Go.RowKit
attribute [local go_sem ↓] Go.wp_at_zero Go.wp_at_succ

theorem qsameL {P : Program} {f : FuncId} {args : Array Value} {w : World} {n : Nat} {v : Value}
    (h : Calls P f args (w.drewN n) fun e w' => e = .returned v ∧ w.drewN n = w') : Calls P f args (w.drewN n) fun e w'' => e = .returned v ∧ ∃ m, w'' = w.drewN m :=
  Calls.quiet_of_same (h.mono fun _ _ ⟨a, b⟩ => ⟨a, b.symm⟩)
structure LogR (w wr : World) (g : Nat) (q : Lies) (x : Acc) (k : Nat) : Prop where
  own : OwnStore w wr g q x
  fit : Fit x
  lf : LogFit x k

set_option maxRecDepth 100000 in
set_option maxHeartbeats 8000000 in
theorem storeLogs_any (happ : AppendOk) (hplc : PlaceOk) (v : Value) (l : List ActM) (w : World) (hr : RdS w [] 6 v l.length (flatG encAct l)) (ha : ∀ a ∈ l, ActR w a) :
    Calls Tryz.prog 13 #[v] w fun e' w' => e' = .returned (.bool true) ∧ Below w.heap.size w w' := by
  have hh := heavy_any v l w hr ha
  obtain ⟨A, cap, hv, hnc, hcm⟩ := hr.form
  subst hv
  cases hhv : heavyL (l.map (·.p)) with
  | true =>
    rw [hhv] at hh
    have haw := fun W => awake_any happ W
    clear hr ha hhv happ hplc
    generalize l.length = n at hh hnc ⊢
    go_enter Tryz.func13, Tryz.ntmps13
    go_wp2_with (first
      | (go_at_call 33; refine hh.mono ?_; rintro e1 w1 ⟨rfl, hb1⟩; have HB1 := Lib.hid hb1; clear hh hb1)
      | (go_at_call 15; refine (haw _).mono ?_; rintro e5 w5 ⟨rfl, hb⟩; have HB5 := Lib.hid (below_then HB1.out hb); clear hb haw)
      | fail)
    go_ret
    exact ⟨rfl, HB5.out⟩
  | false =>
    rw [hhv] at hh
    obtain ⟨n, hnn⟩ : ∃ n, l.length = n := ⟨_, rfl⟩
    have hn60 : n ≤ 60 := by
      have h1 := (heavyL_no hhv).1
      rw [List.length_map, hnn] at h1
      exact h1
    have hW := fun W => wide_any W
    have hN := fun W => newA_any 1000 100 1048576 1073741824 1073741824 10000 200 (by unfold lim; omega) (by unfold lim; omega) (by unfold lim; omega) (by unfold lim; omega) (by unfold lim; omega) (by unfold lim; omega) (by unfold lim; omega) W
    have HR := Lib.hid hr
    have HA := Lib.hid ha
    have HV := Lib.hid hhv
    have HNN := Lib.hid hnn
    have HAPP := Lib.hid happ
    have HPLC := Lib.hid hplc
    rw [hnn] at hh
    rw [hnn]
    clear hr ha hhv hnn happ hplc hnc
    go_enter Tryz.func13, Tryz.ntmps13
    go_wp2_with (first
      | (go_at_call 33; refine hh.mono ?_; rintro e1 w1 ⟨rfl, hb1⟩; have HB1 := Lib.hid hb1; clear hh hb1)
      | (go_at_call 17; refine (hW _).mono ?_; rintro e1 w2 ⟨rfl, hb2⟩; have HB2 := Lib.hid (below_then HB1.out hb2); clear hW hb2)
      | (go_at_call 16; refine (hN _).mono ?_; rintro e1 w3 ⟨g, q, rfl, ho⟩; have HO := Lib.hid (ho.from2 HB2.out); clear hN ho)
      | (go_at_call 18; refine (num_any _ _).mono ?_; rintro e1 wn ⟨rfl, rfl⟩)
      | fail)
    have HU0 : Hid (LogR w w3 g q (newP wideP) 0) := Lib.hid ⟨HO.out, newP_fit wideP_ok, logFit_new⟩
    go_loopw [5] (fun iv wr => ∃ (k : Nat) (q : Lies) (x : Acc), k ≤ n ∧ iv = .int .i64 k ∧ Hid (LogR w wr g q x k)) (fun iv _ => n - (intOf iv).toNat)
    case atStart => exact ⟨0, q, _, Nat.zero_le _, rfl, HU0⟩
    case round =>
      obtain ⟨k, q, x, hk, rfl, HU⟩ := hrel
      by_cases hlt : k < n
      · have hltz : (k : Int) < (n : Int) := by omega
        have hkl : k < l.length := by rw [HNN.out]; exact hlt
        have hk0 : (0 : Int) ≤ (k : Int) := by omega
        have hkw : IntKind.i64.wrap ((k : Int) + 1) = (k : Int) + 1 := IntWalk.i64_in _ (by omega)
        obtain ⟨am, hak⟩ : ∃ am, l[k] = am := ⟨_, rfl⟩
        have ham : am ∈ l := hak ▸ List.getElem_mem hkl
        obtain ⟨b1, o1, c1', hv1, _, _, hl1, _, hat1⟩ := HR.out.at_ (by omega)
        have e1 := (Value.slice.inj hv1).1
        subst e1
        have hcell : ∀ W, Below w.heap.size w W → ∀ j, j < 6 → W.cell? ⟨b1, o1 + k * 6 + j, none⟩ = (encAct am)[j]? := fun W hb j hj => by
          rw [Nat.add_assoc]
          refine (hb.cell hl1).trans ((hat1 (k * 6 + j) (by omega)).trans ?_)
          rw [flatG_get encAct_length l k j hkl hj, hak]
        have hdo : ∀ W, Below w.heap.size w W → StoreAt W g q x → Calls Tryz.prog 35 #[.pointer (some ⟨g, 0, none⟩), .agg #[.int .i64 am.p.op, .int .i64 am.p.id, .int .i64 am.p.at_, .string ⟨am.p.name.toArray⟩, am.vb, am.vk]] W (ErrOut W g q (doP x am.p)) := fun W hb hst =>
          doOne_any HAPP.out HPLC.out W g q x am.p.op am.p.id am.p.at_ am.p.name am.p.boxes am.p.keys am.vb am.vk [] [] (actIn hst HU.out.fit HA.out HV.out ham hb)
        obtain ⟨⟨op, id, at_, nm, bs, ks⟩, vb, vk⟩ := am
        simp only at hdo
        have hfx := doP_fit HU.out.fit ⟨op, id, at_, nm, bs, ks⟩
        have hstep := (doP_step x ⟨op, id, at_, nm, bs, ks⟩).law.1
        obtain ⟨⟨tm, tb, hlaw⟩, hlf⟩ := doP_logs HU.out.lf HU.out.fit (by omega) ⟨op, id, at_, nm, bs, ks⟩
        obtain ⟨⟨x', er⟩, hdx⟩ : ∃ r, doP x ⟨op, id, at_, nm, bs, ks⟩ = r := ⟨_, rfl⟩
        rw [hdx] at hdo hfx hstep hlaw hlf
        simp only at hfx hstep hlaw hlf
        have hml := mails_any wr g q x HU.out.own.at_ HU.out.fit.smallR
        have hcl0 := HU.out.lf.pos
        obtain ⟨c, hc⟩ : ∃ c, x.clock = c := ⟨_, rfl⟩
        obtain ⟨c', hc'⟩ : ∃ c', x'.clock = c' := ⟨_, rfl⟩
        obtain ⟨nw, hnw⟩ : ∃ nw, x.mails.length = nw := ⟨_, rfl⟩
        obtain ⟨bw, hbw⟩ : ∃ bw, x.boxes.length = bw := ⟨_, rfl⟩
        rw [hnw] at hml
        have hcc : c ≤ c' := by rw [← hc, ← hc']; rcases hstep with h1 | h1 <;> omega
        rw [hc] at hcl0
        have HDO := Lib.hid hdo
        have HCELL := Lib.hid hcell
        have HFX := Lib.hid hfx
        have HLAW := Lib.hid hlaw
        have HLF := Lib.hid hlf
        have HC := Lib.hid hc
        have HC' := Lib.hid hc'
        have HNW := Lib.hid hnw
        have HBW := Lib.hid hbw
        have HCC := Lib.hid hcc
        have HC0 := Lib.hid hcl0
        clear hdo hcell hfx hlaw hlf hc hc' hnw hbw hstep hak ham hdx hl1 hat1 hv1 hcc hcl0
        go_upto_region 12 with (first
          | (go_at_call 20; (with_reducible refine hml.mono ?_); rintro e1 w6 ⟨A6, c6, rfl, _, hb6⟩; have o6 := HU.out.own.later hb6; have hbx := boxes_any w6 g q x o6.at_ HU.out.fit.nbox; rw [HBW.out] at hbx; have HO6 := Lib.hid o6; clear hml hb6 o6)
          | (go_at_call 25; (with_reducible refine hbx.mono ?_); rintro e1 w7 ⟨v7, h7, rfl, hs7, _, hb7⟩; obtain ⟨A7, c7, rfl, _, _⟩ := hs7.form; have o7 := HO6.out.later hb7; have hck := clock_any g x.clock w7 o7.at_.cell9; rw [HC.out] at hck; have hdo7 := HDO.out w7 o7.below o7.at_; have z0 : w7.cell? ⟨b1, o1 + k * 6, none⟩ = some (.int .i64 op) := HCELL.out w7 o7.below 0 (by omega); have z1 : w7.cell? ⟨b1, o1 + k * 6 + 1, none⟩ = some (.int .i64 id) := HCELL.out w7 o7.below 1 (by omega); have z2 : w7.cell? ⟨b1, o1 + k * 6 + 2, none⟩ = some (.int .i64 at_) := HCELL.out w7 o7.below 2 (by omega); have z3 : w7.cell? ⟨b1, o1 + k * 6 + 3, none⟩ = some (.string ⟨nm.toArray⟩) := HCELL.out w7 o7.below 3 (by omega); have z4 : w7.cell? ⟨b1, o1 + k * 6 + 4, none⟩ = some vb := HCELL.out w7 o7.below 4 (by omega); have z5 : w7.cell? ⟨b1, o1 + k * 6 + 5, none⟩ = some vk := HCELL.out w7 o7.below 5 (by omega); have HO7 := Lib.hid o7; clear hbx hs7 hb7 o7)
          | (go_at_call 26; (with_reducible refine hck.mono ?_); rintro e1 wn ⟨rfl, rfl⟩; clear hck)
          | (go_at_call 35; (with_reducible refine hdo7.mono ?_); rintro e1 w8 ⟨rfl, q8, ht8⟩; have HO8 := Lib.hid (HO7.out.turned ht8); clear hdo7 ht8 z0 z1 z2 z3 z4 z5)
          | fail)
        have hll : x'.log.es.length ≤ 1099511627776 := by have := HLF.out.len; omega
        have hlg := fun W (h : StoreAt W g q8 x') => storeLog_any W g q8 x' h (by omega)
        have hck : ∀ W, StoreAt W g q8 x' → Calls Tryz.prog 26 #[.pointer (some ⟨g, 0, none⟩)] W fun e w' => e = .returned (.int .i64 c') ∧ W = w' := fun W h => by
          have h1 := clock_any g x'.clock W h.cell9
          rw [HC'.out] at h1
          exact h1
        have hs2 := fun W g2 h2 (h : LogAt W g2 h2 x'.log) => logSince_any W g2 h2 x'.log 2 c c' h hll HLF.out.floor (by have := HC0.out; omega) HCC.out tm (by rw [← HC.out, ← HC'.out]; exact HLAW.out.mailsTold)
        have hs1 := fun W g2 h2 (h : LogAt W g2 h2 x'.log) => logSince_any W g2 h2 x'.log 1 c c' h hll HLF.out.floor (by have := HC0.out; omega) HCC.out tb (by rw [← HC.out, ← HC'.out]; exact HLAW.out.boxesTold)
        obtain ⟨a1, ha1⟩ : ∃ a1, tm.made.length = a1 := ⟨_, rfl⟩
        obtain ⟨a2, ha2⟩ : ∃ a2, tm.turned.length = a2 := ⟨_, rfl⟩
        obtain ⟨a3, ha3⟩ : ∃ a3, tm.gone.length = a3 := ⟨_, rfl⟩
        obtain ⟨d1, hd1⟩ : ∃ d1, tb.made.length = d1 := ⟨_, rfl⟩
        obtain ⟨d2, hd2⟩ : ∃ d2, tb.turned.length = d2 := ⟨_, rfl⟩
        obtain ⟨d3, hd3⟩ : ∃ d3, tb.gone.length = d3 := ⟨_, rfl⟩
        rw [ha1, ha2, ha3] at hs2
        rw [hd1, hd2, hd3] at hs1
        have HA := Lib.hid (And.intro ha1 (And.intro ha2 ha3))
        have HD := Lib.hid (And.intro hd1 (And.intro hd2 hd3))
        have HLG := Lib.hid hlg
        have HCK := Lib.hid hck
        have HS2 := Lib.hid hs2
        have HS1 := Lib.hid hs1
        clear ha1 ha2 ha3 hd1 hd2 hd3 hlg hck hs1 hs2 hll
        have hlg8 := HLG.out w8 HO8.out.at_
        go_upto_region 13 with (first
          | (go_at_call 40; (with_reducible refine hlg8.mono ?_); rintro e1 w9 ⟨g2, h2, rfl, hl9, hb9, _, _⟩; have o9 := HO8.out.later hb9; have hck9 := HCK.out w9 o9.at_; have hsi := HS2.out w9 g2 h2 hl9; have HO9 := Lib.hid o9; clear hlg8 hb9 o9 hl9)
          | (go_at_call 26; (with_reducible refine hck9.mono ?_); rintro e1 wn ⟨rfl, rfl⟩; clear hck9)
          | (go_at_call 41; (with_reducible refine hsi.mono ?_); rintro e1 w10 ⟨A0, A1, A2, p0, p1, p2, hh0, hh1, rfl, s0, s1, hb10⟩; have HO10 := Lib.hid (HO9.out.later hb10); have HS0 := Lib.hid s0; have HSX1 := Lib.hid s1; clear hsi s0 s1 hb10)
          | fail)
        obtain ⟨wc1, hwc1⟩ : ∃ wc1 : World, wc1 = w10.alloc (.cells #[.slice A0 a1 p0, .slice A1 a2 p1, .slice A2 a3 p2, .int .i64 c', .bool false] 82) := ⟨_, rfl⟩
        rw [← hwc1]
        obtain ⟨C1, hC1⟩ : ∃ C1, C1 = w10.heap.size := ⟨_, rfl⟩
        rw [← hC1]
        have HK1 : Hid (Blk wc1 C1 82 #[.slice A0 a1 p0, .slice A1 a2 p1, .slice A2 a3 p2, .int .i64 c', .bool false]) := Lib.hid (by rw [hwc1, hC1]; exact Blk.new _ _ _)
        have HO11 : Hid (OwnStore w wc1 g q8 x') := Lib.hid (by rw [hwc1]; exact HO10.out.later (below_alloc1 _ _))
        have HS0' : Hid (Sl wc1 3 1 (.slice A0 a1 p0) hh0 a1 (tm.made.map encI)) := Lib.hid (by rw [hwc1]; exact HS0.out.alloc _)
        have HS1' : Hid (Sl wc1 3 1 (.slice A1 a2 p1) hh1 a2 (tm.turned.map encI)) := Lib.hid (by rw [hwc1]; exact HSX1.out.alloc _)
        clear hwc1 hC1 HO9 HO10 HS0 HSX1
        have hlg8 := HLG.out wc1 HO11.out.at_
        go_upto_region 14 with (first
          | (go_at_call 40; (with_reducible refine hlg8.mono ?_); rintro e1 w9 ⟨g2, h2, rfl, hl9, hb9, _, _⟩; have o9 := HO11.out.later hb9; have hck9 := HCK.out w9 o9.at_; have hsi := HS1.out w9 g2 h2 hl9; have HB9 := Lib.hid hb9; clear hlg8 hb9 o9 hl9)
          | (go_at_call 26; (with_reducible refine hck9.mono ?_); rintro e1 wn ⟨rfl, rfl⟩; clear hck9)
          | (go_at_call 41; (with_reducible refine hsi.mono ?_); rintro e1 w10 ⟨D0, D1, D2, r0, r1, r2, hd0, hd1, rfl, _, _, hb10⟩; have HB10 := Lib.hid (below_then HB9.out hb10); clear hsi hb10)
          | fail)
        obtain ⟨wc2, hwc2⟩ : ∃ wc2 : World, wc2 = w10.alloc (.cells #[.slice D0 d1 r0, .slice D1 d2 r1, .slice D2 d3 r2, .int .i64 c', .bool false] 82) := ⟨_, rfl⟩
        rw [← hwc2]
        obtain ⟨C2, hC2⟩ : ∃ C2, C2 = w10.heap.size := ⟨_, rfl⟩
        rw [← hC2]
        have HK2 : Hid (Blk wc2 C2 82 #[.slice D0 d1 r0, .slice D1 d2 r1, .slice D2 d3 r2, .int .i64 c', .bool false]) := Lib.hid (by rw [hwc2, hC2]; exact Blk.new _ _ _)
        have HB12 : Hid (Below wc1.heap.size wc1 wc2) := Lib.hid (by rw [hwc2]; exact below_then HB10.out (below_alloc1 _ _))
        clear hwc2 hC2 HB9 HB10
        have HO12 := Lib.hid (HO11.out.later HB12.out)
        have hk1 := HK1.out.below HB12.out HK1.out.lt
        have e0 : wc2.cell? ⟨C1, 0, none⟩ = some (.slice A0 a1 p0) := hk1.cell 0
        have e1 : wc2.cell? ⟨C1, 1, none⟩ = some (.slice A1 a2 p1) := hk1.cell 1
        have e2 : wc2.cell? ⟨C1, 2, none⟩ = some (.slice A2 a3 p2) := hk1.cell 2
        have hone : a1 + a2 + a3 ≤ 1 := by
          have h1 := HLAW.out.one
          unfold Told.size at h1
          rw [HA.out.1, HA.out.2.1, HA.out.2.2] at h1
          exact h1
        obtain ⟨s12, hs12, hs12n⟩ : ∃ s12 : Nat, (a1 : Int) + (a2 : Int) = (s12 : Int) ∧ s12 = a1 + a2 := ⟨a1 + a2, by omega, rfl⟩
        obtain ⟨s13, hs13, hs13n⟩ : ∃ s13 : Nat, (s12 : Int) + (a3 : Int) = (s13 : Int) ∧ s13 = s12 + a3 := ⟨s12 + a3, by omega, rfl⟩
        have hs13b : ¬ (1 : Int) < (s13 : Int) := by omega
        have hw12 : IntKind.i64.wrap (s12 : Int) = (s12 : Int) := IntWalk.i64_in _ (by omega)
        have hw13 : IntKind.i64.wrap (s13 : Int) = (s13 : Int) := IntWalk.i64_in _ (by omega)
        clear hs12n hs13n
        have hml := mails_any wc2 g q8 x' HO12.out.at_ HFX.out.smallR
        obtain ⟨nn, hnn⟩ : ∃ nn, x'.mails.length = nn := ⟨_, rfl⟩
        obtain ⟨bn, hbn⟩ : ∃ bn, x'.boxes.length = bn := ⟨_, rfl⟩
        rw [hnn] at hml
        have HNN2 := Lib.hid hnn
        have HBN := Lib.hid hbn
        clear hnn hbn hk1
        go_upto_region 17 with (first
          | (go_at_call 18; refine (num_any _ _).mono ?_; rintro e1 wn ⟨rfl, rfl⟩)
          | (go_at_call 20; (with_reducible refine hml.mono ?_); rintro e1 w13 ⟨A13, c13, rfl, hma, hb13⟩; have o13 := HO12.out.later hb13; have hbx := boxes_any w13 g q8 x' o13.at_ HFX.out.nbox; rw [HBN.out] at hbx; have HO13 := Lib.hid o13; have HMA := Lib.hid hma; have HB13 := Lib.hid hb13; clear hml hb13 o13 hma)
          | (go_at_call 25; (with_reducible refine hbx.mono ?_); rintro e1 w14 ⟨v14, h14, rfl, hs14, _, hb14⟩; obtain ⟨A14, c14, rfl, _, _⟩ := hs14.form; have HO14 := Lib.hid (HO13.out.later hb14); have HB14 := Lib.hid (below_then HB13.out hb14); have HMA14 := Lib.hid (HMA.out.below hb14); clear hbx hs14 hb14)
          | fail)
        clear e0 e1 e2 hs12 hs13 hw12 hw13 hs13b
        have hk1 := (HK1.out.below HB12.out HK1.out.lt).below HB14.out (Nat.lt_of_lt_of_le HK1.out.lt HB12.out.size)
        have hk2 := HK2.out.below HB14.out HK2.out.lt
        have e0 : w14.cell? ⟨C1, 0, none⟩ = some (.slice A0 a1 p0) := hk1.cell 0
        have e1 : w14.cell? ⟨C1, 1, none⟩ = some (.slice A1 a2 p1) := hk1.cell 1
        have e2 : w14.cell? ⟨C1, 2, none⟩ = some (.slice A2 a3 p2) := hk1.cell 2
        have f0 : w14.cell? ⟨C2, 0, none⟩ = some (.slice D0 d1 r0) := hk2.cell 0
        have f2 : w14.cell? ⟨C2, 2, none⟩ = some (.slice D2 d3 r2) := hk2.cell 2
        have hm1 := HLAW.out.mails
        have hm2 := HLAW.out.boxes
        rw [HNN2.out, HNW.out, HA.out.1, HA.out.2.2] at hm1
        rw [HBN.out, HBW.out, HD.out.1, HD.out.2.2] at hm2
        obtain ⟨dd, hdd⟩ : ∃ dd : Int, (a1 : Int) - (a3 : Int) = dd := ⟨_, rfl⟩
        obtain ⟨ee, hee⟩ : ∃ ee : Int, (d1 : Int) - (d3 : Int) = ee := ⟨_, rfl⟩
        rw [hdd] at hm1
        rw [hee] at hm2
        have hbb : bn ≤ 4294967296 ∧ bw ≤ 4294967296 := by
          have h1 := HFX.out.nb
          have h2 := HLF.out.clock
          have h3 := HU.out.fit.nb
          have h4 := HU.out.lf.clock
          rw [HBN.out] at h1
          rw [HBW.out] at h3
          omega
        have hwd : IntKind.i64.wrap dd = dd := IntWalk.i64_in _ (by omega)
        have hwe : IntKind.i64.wrap ee = ee := IntWalk.i64_in _ (by omega)
        clear hk1 hk2
        go_upto_block 2 with (fail)
        clear hm1 hm2 hdd hee hwd hwe f0 f2 e2 hbb
        have HE0 := Lib.hid e0
        have HE1 := Lib.hid e1
        clear e0 e1
        have hnnb : nn ≤ 4294967296 := by
          have h1 := HFX.out.nm
          have h2 := HLF.out.clock
          rw [HNN2.out] at h1
          omega
        go_wp2_with fail
        go_loopw [15] (fun jv wr => ∃ j : Nat, j ≤ nn ∧ jv = .int .i64 j ∧ Hid (Below w14.heap.size w14 wr)) (fun jv _ => nn - (intOf jv).toNat)
        case atStart => exact ⟨0, Nat.zero_le _, rfl, Lib.hid (Below.refl _ _)⟩
        case round =>
          obtain ⟨j, hj, rfl, HB⟩ := hrel
          by_cases hlt2 : j < nn
          · have hjz : (j : Int) < (nn : Int) := by omega
            have hj0 : (0 : Int) ≤ (j : Int) := by omega
            have hjw : IntKind.i64.wrap ((j : Int) + 1) = (j : Int) + 1 := IntWalk.i64_in _ (by omega)
            have hjl : j < x'.mails.length := by rw [HNN2.out]; exact hlt2
            obtain ⟨A, cc, hvv, hat⟩ := HMA14.out.at_
            have hA := (Value.slice.inj hvv).1
            obtain ⟨b, off, hA2, hbl, mm, hmm, _, hcc⟩ := hat j hjl
            rw [hA2] at hA
            have hmem : mm.p ∈ x'.mails := hmm ▸ List.getElem_mem hjl
            have heach := HLAW.out.each mm.p hmem
            rw [HC.out, HC'.out] at heach
            obtain ⟨mi, hmi⟩ : ∃ mi, mm.p.id = mi := ⟨_, rfl⟩
            obtain ⟨mo, hmo⟩ : ∃ mo, mm.p.mod = mo := ⟨_, rfl⟩
            rw [hmi, hmo] at heach
            have x0 : wr.cell? ⟨b, off + j * 8, none⟩ = some (.int .i64 mi) := by
              refine (HB.out.cell hbl).trans ?_
              have h1 := hcc 0 (by omega)
              rw [Nat.add_zero] at h1
              rw [h1, ← hmi]
              rfl
            have x6 : ∀ W, Below w14.heap.size w14 W → W.cell? ⟨b, off + j * 8 + 6, none⟩ = some (.int .i64 mo) := fun W hb => by
              refine (hb.cell hbl).trans ((hcc 6 (by omega)).trans ?_)
              rw [← hmo]
              rfl
            have HX6 := Lib.hid x6
            have y0 : wr.cell? ⟨C1, 0, none⟩ = some (.slice A0 a1 p0) := (HB.out.cell (World.block_lt_of_cell? _ _ HE0.out)).trans HE0.out
            have y1 : wr.cell? ⟨C1, 1, none⟩ = some (.slice A1 a2 p1) := (HB.out.cell (World.block_lt_of_cell? _ _ HE1.out)).trans HE1.out
            obtain ⟨td, htd⟩ : ∃ td, decide (firstT tm = mi) = td := ⟨_, rfl⟩
            have hfi : ∀ W, Below wr.heap.size wr W → Calls Tryz.prog 43 #[.slice A0 a1 p0, .slice A1 a2 p1] W fun e w' => e = .returned (.int .i64 (firstT tm)) ∧ W = w' := fun W hb => by
              have hb2 := below_then (below_then (below_then HB12.out HB14.out) HB.out) hb
              refine firstT_any W _ _ hh0 hh1 tm ?_ ?_
              · have h1 := HS0'.out.keep (fun b h => hb2.block b (HS0'.out.lt b h))
                rw [HA.out.1]
                exact h1
              · have h1 := HS1'.out.keep (fun b h => hb2.block b (HS1'.out.lt b h))
                rw [HA.out.2.1]
                exact h1
            have hin : ∀ W B, Blk W B 89 #[.int .i64 mi, .int .i64 mi] → Calls Tryz.prog 42 #[.slice (some ⟨B, 0, none⟩) 1 1, .int .i64 (firstT tm)] W fun e w' => e = .returned (.bool td) ∧ W = w' := fun W B hB => by
              rw [← htd]
              exact inOne_any W B mi (firstT tm) hB
            have HFI := Lib.hid hfi
            have HIN := Lib.hid hin
            have HTD := Lib.hid htd
            have HEACH := Lib.hid heach
            clear hfi hin htd heach hat hvv hcc hmi hmo hmm hmem hA2 x6
            subst hA
            have n0 := World.new_ne wr _ x0
            have n1 := World.new_ne wr _ y0
            go_upto_region 22 with (fail)
            go_cut [16] (fun u wx => u = .bool td ∧ Hid (Below wr.heap.size wr wx))
            case first =>
              go_region_held3 (fun w' => w'.cell? ⟨b, off + j * 8, none⟩ = some (.int .i64 mi) ∧ w'.cell? ⟨C1, 0, none⟩ = some (.slice A0 a1 p0) ∧ w'.cell? ⟨C1, 1, none⟩ = some (.slice A1 a2 p1)) (go_keep) (first
                | (go_at_call 43; refine (HFI.out _ (by first | exact below_drew1 _ | exact below_then (below_alloc1 _ _) (below_drew1 _) | exact below_then (below_drew1 _) (below_alloc1 _ _))).mono ?_; rintro e w' ⟨rfl, rfl⟩)
                | (go_at_call 42; refine (HIN.out _ _ (by first | exact Blk.new _ _ _ | exact (Blk.new _ _ _).heap (by rfl))).mono ?_; rintro e w' ⟨rfl, rfl⟩)
                | fail)
              all_goals
                go_wp2_with fail
                go_meet
                exact ⟨rfl, Lib.hid (by first | exact below_then (below_alloc1 _ _) (below_drew1 _) | exact below_then (below_drew1 _) (below_alloc1 _ _))⟩
            case rest =>
              obtain ⟨rfl, HBX⟩ := hcut
              obtain ⟨wd, rfl⟩ : ∃ wd : World, wd = wc := ⟨_, rfl⟩
              have HBD := Lib.hid (below_then HB.out HBX.out)
              have HOD := Lib.hid (HO14.out.later HBD.out)
              have x6 := HX6.out wd HBD.out
              clear x0 y0 y1 n0 n1
              rcases Decidable.em (mo = c') with h1 | h1
              · have e1 : (mo == c') = true := by simpa using h1
                rcases Decidable.em (c < c') with h2 | h2
                · have e2 : decide (c < c') = true := decide_eq_true h2
                  have hb : td = true := by rw [← HTD.out]; exact decide_eq_true (HEACH.out.1 ⟨h1, h2⟩)
                  subst hb
                  clear h1 h2
                  go_wp2_with fail
                  go_quiet ((go_at_call 26; exact qsameL (HCK.out _ (HOD.out.at_.drewN _))))
                  go_wp2_with fail
                  refine ⟨?_, by simp [intOf]; omega⟩
                  first | exact ⟨j + 1, by omega, by go_num, Lib.hid (below_drewN' HBD.out _)⟩ | ((repeat apply Exists.intro); exact ⟨⟨j + 1, by omega, by go_num, Lib.hid (below_drewN' HBD.out _)⟩, rfl⟩)
                · have e2 : decide (c < c') = false := decide_eq_false h2
                  have hb : td = false := by rw [← HTD.out]; exact decide_eq_false (fun h => h2 (HEACH.out.2 h).2)
                  subst hb
                  clear h1 h2
                  go_wp2_with fail
                  go_quiet ((go_at_call 26; exact qsameL (HCK.out _ (HOD.out.at_.drewN _))))
                  go_wp2_with fail
                  refine ⟨?_, by simp [intOf]; omega⟩
                  first | exact ⟨j + 1, by omega, by go_num, Lib.hid (below_drewN' HBD.out _)⟩ | ((repeat apply Exists.intro); exact ⟨⟨j + 1, by omega, by go_num, Lib.hid (below_drewN' HBD.out _)⟩, rfl⟩)
              · have e1 : (mo == c') = false := by simpa using h1
                have hb : td = false := by rw [← HTD.out]; exact decide_eq_false (fun h => h1 (HEACH.out.2 h).1)
                subst hb
                clear h1
                go_wp2_with fail
                go_quiet ((go_at_call 26; exact qsameL (HCK.out _ (HOD.out.at_.drewN _))))
                go_wp2_with fail
                refine ⟨?_, by simp [intOf]; omega⟩
                first | exact ⟨j + 1, by omega, by go_num, Lib.hid (below_drewN' HBD.out _)⟩ | ((repeat apply Exists.intro); exact ⟨⟨j + 1, by omega, by go_num, Lib.hid (below_drewN' HBD.out _)⟩, rfl⟩)
          · have hjz : ¬ (j : Int) < (nn : Int) := by omega
            have HN2 : Hid (LogR w wr g q8 x' (k + 1)) := Lib.hid ⟨HO14.out.later HB.out, HFX.out, HLF.out⟩
            go_wp2_with fail
            refine ⟨?_, by simp [intOf]; omega⟩
            first | exact ⟨k + 1, q8, x', by omega, by go_num, HN2⟩ | ((repeat apply Exists.intro); exact ⟨⟨k + 1, q8, x', by omega, by go_num, HN2⟩, rfl⟩)
      · have hltz : ¬ (k : Int) < (n : Int) := by omega
        have haw := fun W => awake_any HAPP.out W
        go_wp2_with (first
          | (go_at_call 15; refine (haw _).mono ?_; rintro e1 w13 ⟨rfl, hb13⟩; have HB13 := Lib.hid hb13; clear hb13 haw)
          | fail)
        go_ret
        exact ⟨rfl, below_then HU.out.own.below HB13.out⟩

end Go.Proofs.YtmbibhphpjmboaaGreatDoor
