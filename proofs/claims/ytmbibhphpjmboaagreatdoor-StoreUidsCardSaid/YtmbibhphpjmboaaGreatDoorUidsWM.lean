/-
  The walk of pillarboxlaw18.StoreUids.
-/
import Derived.Test.YtmbibhphpjmboaaGreatDoorUidsW0M
import Derived.Test.YtmbibhphpjmboaaGreatDoorRefusesWM
import Derived.Deep.QuietTactic
import Derived.BigQuiet
import Derived.Deep.DeepCutAuto
import Derived.Deep.CutBlock
import Derived.Deep.RegionHeld3
import Derived.Laws.StructEq
namespace Go.Proofs.YtmbibhphpjmboaaGreatDoor
open Go.Shelf Go.RowKit
attribute [local go_sem ↓] Go.wp_at_zero Go.wp_at_succ

theorem Try.infoUse : (Tryz.prog.info? 73).map (fun i => (i.zero, i.size, i.bytes)) = some (some (.agg #[.int .i64 0, .int .i64 0, .int .i64 0, .int .i64 0]), 4, 32) := by kernel_rfl

set_option maxRecDepth 100000 in
set_option maxHeartbeats 8000000 in
theorem storeUids_any (happ : AppendOk) (hplc : PlaceOk) (v : Value) (l : List ActM) (w : World) (hr : RdS w [] 6 v l.length (flatG encAct l)) (ha : ∀ a ∈ l, ActR w a) :
    Calls Tryz.prog 10 #[v] w fun e' w' => e' = .returned (.bool true) ∧ Below w.heap.size w w' := by
  have hh := heavy_any v l w hr ha
  obtain ⟨A, cap, hv, hnc, hcm⟩ := hr.form
  subst hv
  cases hhv : heavyL (l.map (·.p)) with
  | true =>
    rw [hhv] at hh
    have haw := fun W => awake_any happ W
    clear hr ha hhv happ hplc
    generalize l.length = n at hh hnc ⊢
    go_enter Tryz.func10, Tryz.ntmps10
    go_wp2_with (first
      | (go_at_call 33; refine hh.mono ?_; rintro e1 w1 ⟨rfl, hb1⟩; have HB1 := Lib.hid hb1; clear hh hb1)
      | (go_at_call 15; refine (haw _).mono ?_; rintro e5 w5 ⟨rfl, hb⟩; have HB5 := Lib.hid (below_then HB1.out hb); clear hb haw)
      | fail)
    go_ret
    exact ⟨rfl, HB5.out⟩
  | false =>
    rw [hhv] at hh
    obtain ⟨n, hnn⟩ : ∃ n, l.length = n := ⟨_, rfl⟩
    have hn60 : n ≤ 60 := by
      have h1 := (heavyL_no hhv).1
      rw [List.length_map, hnn] at h1
      exact h1
    have hcf : ∀ W, Calls Tryz.prog 34 #[.int .u8 19, .int .u8 7, .int .u8 39, .int .u8 255, .int .u8 9] W fun e' w' => e' = .returned (.agg #[.string ⟨#[117]⟩, .string ⟨#[112]⟩, .int .i64 20, .int .i64 8, .int .i64 4000, .int .i64 40, .int .i64 257, .int .i64 10, .int .i64 50]) ∧ Below W.heap.size W w' := fun W => config_any 19 7 39 255 9 (by omega) (by omega) (by omega) (by omega) (by omega) W
    have hN := fun W => newA_any 20 8 4000 40 257 10 50 (by unfold lim; omega) (by unfold lim; omega) (by unfold lim; omega) (by unfold lim; omega) (by unfold lim; omega) (by unfold lim; omega) (by unfold lim; omega) W
    have hok : CfgOk (cfgN 20 8 4000 40 257 10 50) := by
      constructor <;> (simp only [cfgN]; omega)
    have HR := Lib.hid hr
    have HA := Lib.hid ha
    have HV := Lib.hid hhv
    have HNN := Lib.hid hnn
    have HAPP := Lib.hid happ
    have HPLC := Lib.hid hplc
    have HFIT := Lib.hid (newP_fit hok)
    rw [hnn] at hh
    rw [hnn]
    clear hr ha hhv hnn happ hplc hok hnc
    go_enter Tryz.func10, Tryz.ntmps10
    go_wp2_with (first
      | (go_at_call 33; refine hh.mono ?_; rintro e1 w1 ⟨rfl, hb1⟩; have HB1 := Lib.hid hb1; clear hh hb1)
      | (go_at_call 34; refine (hcf _).mono ?_; rintro e1 w2 ⟨rfl, hb2⟩; have HB2 := Lib.hid (below_then HB1.out hb2); clear hcf hb2)
      | (go_at_call 16; refine (hN _).mono ?_; rintro e1 w3 ⟨g, q, rfl, ho⟩; have HO := Lib.hid (ho.from2 HB2.out); clear hN ho)
      | (go_at_call 18; refine (num_any _ _).mono ?_; rintro e1 wn ⟨rfl, rfl⟩)
      | fail)
    have HU0 : Hid (UidR w w3 g q (newP (cfgN 20 8 4000 40 257 10 50)) [] (.slice none 0 0) none (0 * 70000)) := Lib.hid ⟨HO.out, HFIT.out, rfl, usesOk_new _, UsesAt.nil _ _ _, Nat.zero_le _⟩
    go_loopw [5, 6] (fun ve iv wr => ∃ (k : Nat) (q : Lies) (x : Acc) (ev : List UseM) (h : Option Nat), k ≤ n ∧ iv = .int .i64 k ∧ Hid (UidR w wr g q x ev ve h (k * 70000))) (fun _ iv _ => n - (intOf iv).toNat)
    case atStart => exact ⟨0, q, _, [], none, Nat.zero_le _, rfl, HU0⟩
    case round =>
      obtain ⟨k, q, x, ev, h, hk, rfl, HU⟩ := hrel
      by_cases hlt : k < n
      · have hltz : (k : Int) < (n : Int) := by omega
        have hkl : k < l.length := by rw [HNN.out]; exact hlt
        have hk0 : (0 : Int) ≤ (k : Int) := by omega
        have hkw : IntKind.i64.wrap ((k : Int) + 1) = (k : Int) + 1 := IntWalk.i64_in _ (by omega)
        obtain ⟨am, hak⟩ : ∃ am, l[k] = am := ⟨_, rfl⟩
        have ham : am ∈ l := hak ▸ List.getElem_mem hkl
        obtain ⟨b1, o1, c1', hv1, _, _, hl1, _, hat1⟩ := HR.out.at_ (by omega)
        have e1 := (Value.slice.inj hv1).1
        subst e1
        have hcell : ∀ W, Below w.heap.size w W → ∀ j, j < 6 → W.cell? ⟨b1, o1 + k * 6 + j, none⟩ = (encAct am)[j]? := fun W hb j hj => by
          rw [Nat.add_assoc]
          refine (hb.cell hl1).trans ((hat1 (k * 6 + j) (by omega)).trans ?_)
          rw [flatG_get encAct_length l k j hkl hj, hak]
        have hdo : Calls Tryz.prog 35 #[.pointer (some ⟨g, 0, none⟩), .agg #[.int .i64 am.p.op, .int .i64 am.p.id, .int .i64 am.p.at_, .string ⟨am.p.name.toArray⟩, am.vb, am.vk]] wr (ErrOut wr g q (doP x am.p)) :=
          doOne_any HAPP.out HPLC.out wr g q x am.p.op am.p.id am.p.at_ am.p.name am.p.boxes am.p.keys am.vb am.vk [] [] (actIn HU.out.own.at_ HU.out.fit HA.out HV.out ham HU.out.own.below)
        have hbl := HU.out.own.below
        have z0 : wr.cell? ⟨b1, o1 + k * 6, none⟩ = some (.int .i64 am.p.op) := hcell wr hbl 0 (by omega)
        have z1 : wr.cell? ⟨b1, o1 + k * 6 + 1, none⟩ = some (.int .i64 am.p.id) := hcell wr hbl 1 (by omega)
        have z2 : wr.cell? ⟨b1, o1 + k * 6 + 2, none⟩ = some (.int .i64 am.p.at_) := hcell wr hbl 2 (by omega)
        have z3 : wr.cell? ⟨b1, o1 + k * 6 + 3, none⟩ = some (.string ⟨am.p.name.toArray⟩) := hcell wr hbl 3 (by omega)
        have z4 : wr.cell? ⟨b1, o1 + k * 6 + 4, none⟩ = some am.vb := hcell wr hbl 4 (by omega)
        have z5 : wr.cell? ⟨b1, o1 + k * 6 + 5, none⟩ = some am.vk := hcell wr hbl 5 (by omega)
        obtain ⟨⟨op, id, at_, nm, bs, ks⟩, vb, vk⟩ := am
        simp only at hdo z0 z1 z2 z3 z4 z5
        obtain ⟨⟨x', er⟩, hdx⟩ : ∃ r, doP x ⟨op, id, at_, nm, bs, ks⟩ = r := ⟨_, rfl⟩
        have hac := fun (w' : World) (q' : Lies) (ht : Turned wr w' g q (doP x ⟨op, id, at_, nm, bs, ks⟩).1 q') => HU.out.act ⟨op, id, at_, nm, bs, ks⟩ ht
        rw [hdx] at hdo hac
        simp only at hac
        have HAC := Lib.hid hac
        obtain ⟨Ae, ce, hve, _, _⟩ := HU.out.at_.sl.form
        subst hve
        clear hcell hat1 hv1 hak ham hdx hl1 hac hbl
        go_upto_block 2 with (first
          | (go_at_call 35; (with_reducible refine hdo.mono ?_); rintro e1 w8 ⟨rfl, q8, ht8⟩; have u8 := HAC.out w8 q8 ht8; have hbx := boxes_any w8 g q8 x' u8.own.at_ u8.fit.nbox; have HU8 := Lib.hid u8; clear hdo ht8 u8 z0 z1 z2 z3 z4 z5)
          | (go_at_call 25; (with_reducible refine hbx.mono ?_); rintro e1 w9 ⟨v9, h9, rfl, hs9, ho9, hb9⟩; obtain ⟨A9, c9, rfl, _, _⟩ := hs9.form; have u9 := HU8.out.later hb9; have hml := mails_anyS w9 g q8 x' u9.own.at_ u9.fit.smallR (h.toList ++ q8.own g) u9.olds; have HU9 := Lib.hid u9; have HS9 := Lib.hid hs9; clear hbx hs9 ho9 hb9 u9)
          | (go_at_call 20; (with_reducible refine hml.mono ?_); rintro e1 w10 ⟨A11, c11, rfl, hma, hb10⟩; have HX0 : Hid (UidX w w10 g q8 x' ev (.slice Ae ev.length ce) h (k * 70000) (.slice A9 x'.boxes.length c9) h9 (.slice A11 x'.mails.length c11)) := Lib.hid ⟨HU9.out.later hb10, HS9.out.keep (fun b hb => hb10.block b (HS9.out.lt b hb)), hma⟩; clear hml hma hb10)
          | fail)
        clear HU HAC
        obtain ⟨nb, hnb⟩ : ∃ nb, x'.boxes.length = nb := ⟨_, rfl⟩
        obtain ⟨nl, hnl⟩ : ∃ nl, x'.mails.length = nl := ⟨_, rfl⟩
        have hsm := HX0.out.r.small
        rw [hnb, hnl] at hsm
        rw [hnb, hnl] at HX0
        rw [hnb, hnl]
        have hnb2 := hsm.1
        have hnl2 := hsm.2.1
        have HMS := Lib.hid hsm.2.2
        have HNB := Lib.hid hnb
        have HNL := Lib.hid hnl
        have HF8 := Lib.hid HX0.out.r.fit
        clear hsm hnb hnl HU8 HU9 HS9
        go_wp2_with fail
        go_loopw [5, 9] (fun ve jv wr => ∃ (j : Nat) (ev : List UseM) (h : Option Nat), j ≤ nl ∧ jv = .int .i64 j ∧ Hid (UidX w wr g q8 x' ev ve h (k * 70000 + j * 258) (.slice A9 nb c9) h9 (.slice A11 nl c11))) (fun _ jv _ => nl - (intOf jv).toNat)
        case atStart => exact ⟨0, ev, h, Nat.zero_le _, rfl, Lib.hid (HX0.out.more (by omega))⟩
        case round =>
          obtain ⟨j, ev, h, hj, rfl, HX⟩ := hrel
          by_cases hlt2 : j < nl
          · have hjz : (j : Int) < (nl : Int) := by omega
            have hj0 : (0 : Int) ≤ (j : Int) := by omega
            have hjw : IntKind.i64.wrap ((j : Int) + 1) = (j : Int) + 1 := IntWalk.i64_in _ (by omega)
            have hjm : j < x'.mails.length := by rw [HNL.out]; exact hlt2
            obtain ⟨m, hm⟩ : ∃ m, x'.mails[j] = m := ⟨_, rfl⟩
            have hmx : m ∈ x'.mails := hm ▸ List.getElem_mem hjm
            have hms := HMS.out m hmx
            have hsome := List.length_pos_iff.2 (HF8.out.mail m hmx).mem.some_
            obtain ⟨nm, hnm⟩ : ∃ nm, m.members.length = nm := ⟨_, rfl⟩
            rw [hnm] at hms hsome
            have hmc : ∀ W ev' ve' h' N', UidX w W g q8 x' ev' ve' h' N' (.slice A9 nb c9) h9 (.slice A11 nl c11) → ∃ b off Am cm, A11 = some ⟨b, off, none⟩ ∧ W.cell? ⟨b, off + j * 8, none⟩ = some (.int .i64 m.id) ∧ W.cell? ⟨b, off + j * 8 + 5, none⟩ = some (.slice Am nm cm) ∧ RdS W [] 2 (.slice Am nm cm) nm (flatG encMem m.members) := fun W ev' ve' h' N' u => by
              obtain ⟨A, c, hvv, hat⟩ := u.ms.at_
              have hvA := (Value.slice.inj hvv).1
              obtain ⟨b, off, hA, hbl, mm, hmm, hpp, hcc⟩ := hat j hjm
              obtain ⟨Am, cm, hmv, _, _⟩ := hpp.mem.form
              have hpm := hpp.mem.sub (T := []) (fun _ _ _ hm => by cases hm)
              rw [hm] at hmm
              rw [hmm, hnm] at hmv hpm
              refine ⟨b, off, Am, cm, hvA.trans hA, ?_, ?_, ?_⟩
              · have h1 := hcc 0 (by omega)
                rw [Nat.add_zero] at h1
                rw [h1]
                show some (Value.int .i64 mm.p.id) = _
                rw [hmm]
              · rw [hcc 5 (by omega)]
                show some mm.mv = _
                rw [hmv]
              · rw [← hmv]
                exact hpm
            have HMC := Lib.hid hmc
            have HMX := Lib.hid hmx
            have HNM := Lib.hid hnm
            obtain ⟨bm, om, Am, cm, hA11, _, y5, _⟩ := hmc wr ev _ h _ HX.out
            subst hA11
            obtain ⟨Ae1, ce1, hve1, _, _⟩ := HX.out.r.at_.sl.form
            subst hve1
            have hpos0 : ((nm : Int) == 0) = false := by simp; omega
            clear hm hmx hnm hmc
            go_upto_block 4 with (fail)
            clear y5 hpos0
            go_wp2_with fail
            go_loopw [5, 10] (fun ve iv wr => ∃ (i : Nat) (ev : List UseM) (h : Option Nat), i ≤ nm ∧ iv = .int .i64 i ∧ Hid (UidX w wr g q8 x' ev ve h (k * 70000 + j * 258 + i) (.slice A9 nb c9) h9 (.slice (some ⟨bm, om, none⟩) nl c11))) (fun _ iv _ => nm - (intOf iv).toNat)
            case atStart => exact ⟨0, ev, h, Nat.zero_le _, rfl, Lib.hid (HX.out.more (by omega))⟩
            case round =>
              obtain ⟨i, ev, h, hi, rfl, HX⟩ := hrel
              by_cases hlt3 : i < nm
              · have hiz : (i : Int) < (nm : Int) := by omega
                have hi0 : (0 : Int) ≤ (i : Int) := by omega
                have hiw : IntKind.i64.wrap ((i : Int) + 1) = (i : Int) + 1 := IntWalk.i64_in _ (by omega)
                have him : i < m.members.length := by rw [HNM.out]; exact hlt3
                obtain ⟨⟨z1, z2⟩, hp⟩ : ∃ p, m.members[i] = p := ⟨_, rfl⟩
                have hpm : (z1, z2) ∈ m.members := hp ▸ List.getElem_mem him
                obtain ⟨hpi, hp1, hp2⟩ := (HF8.out.mail m HMX.out).mem.each _ hpm
                simp only at hpi hp1 hp2
                obtain ⟨bm', om', Am', cm', hA', ym, y5, hrd⟩ := HMC.out wr ev _ h _ HX.out
                injection hA' with hA'
                injection hA' with e1 e2 _
                subst e1 e2
                obtain ⟨d, f, cm2, hv3, _, _, hd, _, hat⟩ := hrd.at_ (by omega)
                have eA := (Value.slice.inj hv3).1
                subst eA
                have hcc : ∀ u, u < 2 → wr.cell? ⟨d, f + i * 2 + u, none⟩ = (encMem (z1, z2))[u]? := fun u hu => by
                  rw [Nat.add_assoc, hat (i * 2 + u) (by omega), flatG_get encMem_length m.members i u him hu, hp]
                have p0 : wr.cell? ⟨d, f + i * 2, none⟩ = some (.int .i64 z1) := hcc 0 (by omega)
                have p1 : wr.cell? ⟨d, f + i * 2 + 1, none⟩ = some (.int .i64 z2) := hcc 1 (by omega)
                have hnbp : 0 < nb := by
                  rw [← HNB.out]
                  obtain ⟨b, hb, _⟩ := List.mem_map.1 hpi
                  exact List.length_pos_of_mem hb
                obtain ⟨b9, o9, c9', hh9, hv9, _, _, _, _⟩ := (show Sl wr 52 6 (.slice A9 nb c9) h9 nb (flatG encB x'.boxes) by
                  have h1 := HX.out.bx
                  rw [HNB.out] at h1
                  exact h1).at_ hnbp
                have eB := (Value.slice.inj hv9).1
                obtain ⟨Ae, ce, hve, _, _⟩ := HX.out.r.at_.sl.form
                subst hve
                obtain ⟨ne, hne⟩ : ∃ ne, ev.length = ne := ⟨_, rfl⟩
                have hneb : ne ≤ 5000000 := by
                  have h1 := HX.out.r.len
                  rw [hne] at h1
                  omega
                have HNE := Lib.hid hne
                have HPM := Lib.hid hpm
                have HPI := Lib.hid hpi
                have HP12 := Lib.hid (And.intro hp1 hp2)
                rw [hne] at HX
                rw [hne]
                clear hcc hat hrd hv3 hp hpm hpi hp1 hp2 hv9 hh9 hne
                subst eB
                go_upto_region 21 with (fail)
                obtain ⟨w1, hw1⟩ : ∃ w1 : World, w1 = wr.alloc (.cells #[.int .i64 z1, .int .i64 z2] 71) := ⟨_, rfl⟩
                rw [← hw1]
                obtain ⟨X, hX⟩ : ∃ X, X = wr.heap.size := ⟨_, rfl⟩
                rw [← hX]
                have hbk : Blk w1 X 71 #[.int .i64 z1, .int .i64 z2] := by rw [hw1, hX]; exact Blk.new _ _ _
                have hx1 : UidX w w1 g q8 x' ev (.slice Ae ne ce) h (k * 70000 + j * 258 + i) (.slice (some ⟨b9, o9, none⟩) nb c9) h9 (.slice (some ⟨bm, om, none⟩) nl c11) := by rw [hw1]; exact HX.out.later (below_alloc1 _ _)
                have HBK := Lib.hid hbk
                have HX1 := Lib.hid hx1
                have HBX : Hid (Sl w1 52 6 (.slice (some ⟨b9, o9, none⟩) nb c9) h9 nb (flatG encB x'.boxes)) := Lib.hid (by
                  have h1 := hx1.bx
                  rw [HNB.out] at h1
                  exact h1)
                clear hw1 hX hbk hx1 HX p0 p1 ym y5
                go_upto_block 6 with (fail)
                go_cut [12] (fun a wx => ∃ (t qq : Nat), a = .int .i64 t ∧ Hid (∃ ht : t < x'.boxes.length, x'.boxes[t].id = z1 ∧ nextOf x'.boxes z1 = x'.boxes[t].next) ∧ Hid (wx = w1.drewN qq))
                case first =>
                  go_wp2_with fail
                  go_loopw [12, 13] (fun a iv wr => ∃ (t : Nat) (av : Int) (qq : Nat), t ≤ nb ∧ a = .int .i64 av ∧ iv = .int .i64 t ∧ Hid (FindS x'.boxes z1 t av) ∧ Hid (wr = w1.drewN qq)) (fun _ iv _ => nb - (intOf iv).toNat)
                  case atStart => exact ⟨0, -1, 0, Nat.zero_le _, rfl, rfl, Lib.hid (.inl ⟨rfl, fun _ _ h => by omega⟩), Lib.hid rfl⟩
                  case round =>
                    obtain ⟨t, av, qq, ht, rfl, rfl, HFS, HW⟩ := hrel
                    by_cases hlt4 : t < nb
                    · have htz : (t : Int) < (nb : Int) := by omega
                      have ht0 : (0 : Int) ≤ (t : Int) := by omega
                      have htw : IntKind.i64.wrap ((t : Int) + 1) = (t : Int) + 1 := IntWalk.i64_in _ (by omega)
                      have htb : t < x'.boxes.length := by rw [HNB.out]; exact hlt4
                      obtain ⟨b9', o9', c9'', _, hv9, _, _, _, hat9⟩ := HBX.out.at_ (by omega)
                      obtain ⟨ea, eb⟩ := slice_addr hv9
                      clear hv9
                      subst ea eb
                      obtain ⟨bid, hbid⟩ : ∃ bid, x'.boxes[t].id = bid := ⟨_, rfl⟩
                      have d0 : wr.cell? ⟨b9, o9 + t * 6, none⟩ = some (.int .i64 bid) := by
                        rw [HW.out]
                        have h1 := (hat9 (t * 6 + 0) (by omega)).1
                        rw [flatG_get encB_length x'.boxes t 0 htb (by omega)] at h1
                        refine h1.trans ?_
                        show some (Value.int .i64 x'.boxes[t].id) = _
                        rw [hbid]
                      have x0 : wr.cell? ⟨X, 0, none⟩ = some (.int .i64 z1) := by rw [HW.out]; exact HBK.out.cell 0
                      have HBI := Lib.hid hbid
                      clear hat9 hbid
                      by_cases hc : bid = z1
                      · have f1 : (bid == z1) = true := by simpa using hc
                        have HF2 : Hid (FindS x'.boxes z1 (t + 1) (t : Int)) := Lib.hid (.inr ⟨t, by omega, rfl, htb, by rw [HBI.out, hc]⟩)
                        clear hc
                        go_wp2_with fail
                        go_quiet (fail)
                        go_wp2_with fail
                        have HW2 : Hid (wr.drewN nq = w1.drewN (qq + nq)) := Lib.hid (by rw [HW.out, World.drewN_drewN])
                        refine ⟨?_, by simp [intOf]; omega⟩
                        first | exact ⟨t + 1, _, _, by omega, rfl, by go_num, HF2, HW2⟩ | ((repeat apply Exists.intro); exact ⟨⟨t + 1, _, _, by omega, rfl, by go_num, HF2, HW2⟩, rfl⟩)
                      · have f1 : (bid == z1) = false := by simpa using hc
                        have HF2 : Hid (FindS x'.boxes z1 (t + 1) av) := Lib.hid (HFS.out.step_no htb (by rw [HBI.out]; exact hc))
                        clear hc
                        go_wp2_with fail
                        go_quiet (fail)
                        go_wp2_with fail
                        have HW2 : Hid (wr.drewN nq = w1.drewN (qq + nq)) := Lib.hid (by rw [HW.out, World.drewN_drewN])
                        refine ⟨?_, by simp [intOf]; omega⟩
                        first | exact ⟨t + 1, _, _, by omega, rfl, by go_num, HF2, HW2⟩ | ((repeat apply Exists.intro); exact ⟨⟨t + 1, _, _, by omega, rfl, by go_num, HF2, HW2⟩, rfl⟩)
                    · have htz : ¬ (t : Int) < (nb : Int) := by omega
                      have htn : t = x'.boxes.length := by rw [HNB.out]; omega
                      have hfs := HFS.out
                      rw [htn] at hfs
                      obtain ⟨tt, htt, rfl, hid1, hnx⟩ := hfs.done HPI.out HF8.out.idsB
                      have HID1 : Hid (∃ ht : tt < x'.boxes.length, x'.boxes[tt].id = z1 ∧ nextOf x'.boxes z1 = x'.boxes[tt].next) := Lib.hid ⟨htt, hid1, hnx⟩
                      clear hfs htn htt hid1 hnx
                      go_wp2_with fail
                      go_meet
                      exact ⟨tt, qq, rfl, HID1, HW⟩
                case rest =>
                  obtain ⟨t, qq, rfl, HT, HW⟩ := hcut
                  obtain ⟨wd, rfl⟩ : ∃ wd : World, wd = wc := ⟨_, rfl⟩
                  obtain ⟨htb, hid1, hnx⟩ := HT.out
                  have ht0 : (0 : Int) ≤ (t : Int) := by omega
                  have htz : (t : Int) < (nb : Int) := by rw [HNB.out] at htb; omega
                  have hxd : UidX w wd g q8 x' ev (.slice Ae ne ce) h (k * 70000 + j * 258 + i) (.slice (some ⟨b9, o9, none⟩) nb c9) h9 (.slice (some ⟨bm, om, none⟩) nl c11) := by rw [HW.out]; exact HX1.out.later (below_drewN' (Below.refl _ _) _)
                  have hbkd : Blk wd X 71 #[.int .i64 z1, .int .i64 z2] := by rw [HW.out]; exact HBK.out.heap rfl
                  obtain ⟨b9', o9', c9'', _, hv9, _, _, _, hat9⟩ := (show Sl wd 52 6 (.slice (some ⟨b9, o9, none⟩) nb c9) h9 nb (flatG encB x'.boxes) by rw [HW.out]; exact HBX.out.heap rfl).at_ (by omega)
                  obtain ⟨ea, eb⟩ := slice_addr hv9
                  clear hv9
                  subst ea eb
                  obtain ⟨nx, hnxv⟩ : ∃ nx, x'.boxes[t].next = nx := ⟨_, rfl⟩
                  obtain ⟨vd, hvd⟩ : ∃ vd, x'.boxes[t].valid = vd := ⟨_, rfl⟩
                  have hbc : ∀ u, u < 6 → wd.cell? ⟨b9, o9 + t * 6 + u, none⟩ = (encB x'.boxes[t])[u]? := fun u hu => by
                    rw [Nat.add_assoc, (hat9 (t * 6 + u) (by rw [HNB.out] at htb; omega)).1, flatG_get encB_length x'.boxes t u htb hu]
                  have d4 : wd.cell? ⟨b9, o9 + t * 6 + 4, none⟩ = some (.int .i64 nx) := (hbc 4 (by omega)).trans (by rw [← hnxv]; rfl)
                  have d3 : wd.cell? ⟨b9, o9 + t * 6 + 3, none⟩ = some (.int .i64 vd) := (hbc 3 (by omega)).trans (by rw [← hvd]; rfl)
                  have x0 : wd.cell? ⟨X, 0, none⟩ = some (.int .i64 z1) := hbkd.cell 0
                  have x1 : wd.cell? ⟨X, 1, none⟩ = some (.int .i64 z2) := hbkd.cell 1
                  have g1 : decide ((t : Int) < 0) = false := decide_eq_false (by omega)
                  have g2 : decide (z2 < 1) = false := decide_eq_false (by have := HP12.out.1; omega)
                  have g3 : decide (nx ≤ z2) = false := decide_eq_false (by have := HP12.out.2; rw [hnx, hnxv] at this; omega)
                  obtain ⟨bm'', om'', Am'', cm'', hA', ym, _, _⟩ := HMC.out wd ev _ h _ hxd
                  injection hA' with hA'
                  injection hA' with e1 e2 _
                  subst e1 e2
                  have HXD := Lib.hid hxd
                  clear hat9 hbc hnxv hvd hid1 hnx hxd hbkd htb HT HX1 HBK HBX
                  go_wp2_with fail
                  go_quiet (fail)
                  go_upto_region 29 with (fail)
                  obtain ⟨we, hwe⟩ : ∃ we : World, we = wd.drewN nq := ⟨_, rfl⟩
                  rw [← hwe]
                  have d3' : we.cell? ⟨b9, o9 + t * 6 + 3, none⟩ = some (.int .i64 vd) := by rw [hwe]; exact d3
                  have x0' : we.cell? ⟨X, 0, none⟩ = some (.int .i64 z1) := by rw [hwe]; exact x0
                  have x1' : we.cell? ⟨X, 1, none⟩ = some (.int .i64 z2) := by rw [hwe]; exact x1
                  have ym' : we.cell? ⟨bm, om + j * 8, none⟩ = some (.int .i64 m.id) := by rw [hwe]; exact ym
                  have HXE : Hid (UidX w we g q8 x' ev (.slice Ae ne ce) h (k * 70000 + j * 258 + i) (.slice (some ⟨b9, o9, none⟩) nb c9) h9 (.slice (some ⟨bm, om, none⟩) nl c11)) := Lib.hid (by rw [hwe]; exact HXD.out.later (below_drewN' (Below.refl _ _) _))
                  obtain ⟨mid, hmid⟩ : ∃ mid, m.id = mid := ⟨_, rfl⟩
                  rw [hmid] at ym'
                  have HMID := Lib.hid hmid
                  clear hwe d3 d4 x0 x1 ym g1 g2 g3 HXD hmid
                  go_cut [14] (fun u wx => ∃ U, u = .pointer (some ⟨U, 0, none⟩) ∧ Hid (Below we.heap.size we wx) ∧ Hid (Blk wx U 73 #[.int .i64 z1, .int .i64 vd, .int .i64 z2, .int .i64 mid]))
                  case first =>
                    have l9 := World.new_ne we _ d3'
                    have lX := World.new_ne we _ x0'
                    have lm := World.new_ne we _ ym'
                    go_region_held3 (fun w' => w'.cell? ⟨b9, o9 + t * 6 + 3, none⟩ = some (.int .i64 vd) ∧ w'.cell? ⟨X, 0, none⟩ = some (.int .i64 z1) ∧ w'.cell? ⟨X, 1, none⟩ = some (.int .i64 z2) ∧ w'.cell? ⟨bm, om + j * 8, none⟩ = some (.int .i64 mid)) (go_keep) (fail)
                    all_goals
                      go_wp2_with fail
                      go_meet
                      exact ⟨_, rfl, Lib.hid (below_then (below_alloc1 _ _) (below_drew1 _)), Lib.hid ((Blk.new _ _ _).heap (by rfl))⟩
                  case rest =>
                    obtain ⟨U, rfl, HBU, HKU⟩ := hcut
                    obtain ⟨wu, rfl⟩ : ∃ wu : World, wu = wc := ⟨_, rfl⟩
                    clear d3' x0' x1' ym'
                    have hne := HNE.out
                    have HSU : Hid (Sl wu 73 4 (.slice Ae ne ce) h ne (flatG encU ev)) := Lib.hid (by
                      have h1 := (HXE.out.later HBU.out).r.at_.sl
                      rw [hne] at h1
                      exact h1)
                    clear hne
                    go_wp2_with fail
                    go_loopw [15, 16] (fun kn iv wr => ∃ (t : Nat) (kb : Bool), t ≤ ne ∧ kn = .bool kb ∧ iv = .int .i64 t ∧ Hid (Below wu.heap.size wu wr)) (fun _ iv _ => ne - (intOf iv).toNat)
                    case atStart => exact ⟨0, false, Nat.zero_le _, rfl, rfl, Lib.hid (Below.refl _ _)⟩
                    case round =>
                      obtain ⟨t2, kb, ht2, rfl, rfl, HBR⟩ := hrel
                      by_cases hlt5 : t2 < ne
                      · have ht2z : (t2 : Int) < (ne : Int) := by omega
                        have ht20 : (0 : Int) ≤ (t2 : Int) := by omega
                        have ht2w : IntKind.i64.wrap ((t2 : Int) + 1) = (t2 : Int) + 1 := IntWalk.i64_in _ (by omega)
                        have ht2e : t2 < ev.length := by rw [HNE.out]; exact hlt5
                        obtain ⟨be, oe, ce', _, hve2, _, _, hbe, hate⟩ := HSU.out.at_ (by omega)
                        have eE := (Value.slice.inj hve2).1
                        clear hve2
                        subst eE
                        obtain ⟨⟨⟨yb, yu, yi⟩, yv⟩, hy⟩ : ∃ y, ev[t2] = y := ⟨_, rfl⟩
                        have hym : (⟨yb, yu, yi⟩ : UseP) ∈ ev.map (·.p) := List.mem_map.2 ⟨_, List.getElem_mem ht2e, by rw [hy]⟩
                        have hsame : yb = z1 → yu = z2 → yi = mid := fun h1 h2 => by
                          rw [← HMID.out]
                          exact HXE.out.r.ok.same HMX.out HPM.out hym h1 h2
                        have hyc : ∀ u, u < 4 → wr.cell? ⟨be, oe + t2 * 4 + u, none⟩ = (encU ⟨⟨yb, yu, yi⟩, yv⟩)[u]? := fun u hu => by
                          rw [Nat.add_assoc]
                          refine (HBR.out.cell hbe).trans ((hate (t2 * 4 + u) (by omega)).1.trans ?_)
                          rw [flatG_get encU_length ev t2 u ht2e hu, hy]
                        have c0 : wr.cell? ⟨be, oe + t2 * 4, none⟩ = some (.int .i64 yb) := hyc 0 (by omega)
                        have c1 : wr.cell? ⟨be, oe + t2 * 4 + 1, none⟩ = some (.int .i64 yv) := hyc 1 (by omega)
                        have c2 : wr.cell? ⟨be, oe + t2 * 4 + 2, none⟩ = some (.int .i64 yu) := hyc 2 (by omega)
                        have c3 : wr.cell? ⟨be, oe + t2 * 4 + 3, none⟩ = some (.int .i64 yi) := hyc 3 (by omega)
                        have hku := HKU.out.below HBR.out HKU.out.lt
                        have q0 : wr.cell? ⟨U, 0, none⟩ = some (.int .i64 z1) := hku.cell 0
                        have q1 : wr.cell? ⟨U, 1, none⟩ = some (.int .i64 vd) := hku.cell 1
                        have q2 : wr.cell? ⟨U, 2, none⟩ = some (.int .i64 z2) := hku.cell 2
                        have q3 : wr.cell? ⟨U, 3, none⟩ = some (.int .i64 mid) := hku.cell 3
                        have hUl : U < wr.heap.size := hku.lt
                        have HBA := Lib.hid (below_then HBR.out (below_alloc1 wr (.cells #[.int .i64 yb, .int .i64 yv, .int .i64 yu, .int .i64 yi] 73)))
                        clear hyc hate hy hym hku
                        by_cases d1 : yb = z1
                        · have e1 : (yb == z1) = true := by simpa using d1
                          by_cases d2 : yv = vd
                          · have e2 : (yv == vd) = true := by simpa using d2
                            by_cases d3 : yu = z2
                            · have e3 : (yu == z2) = true := by simpa using d3
                              have e4 : (yi != mid) = false := by simpa using hsame d1 d3
                              have e5 : (yi == mid) = true := by simpa using hsame d1 d3
                              clear d1 d2 d3 hsame
                              cases kb
                              all_goals
                                go_wp2_with fail
                                refine ⟨?_, by simp [intOf]; omega⟩
                                first | exact ⟨t2 + 1, _, by omega, rfl, by go_num, HBA⟩ | ((repeat apply Exists.intro); exact ⟨⟨t2 + 1, _, by omega, rfl, by go_num, HBA⟩, rfl⟩)
                            · have e3 : (yu == z2) = false := by simpa using d3
                              clear d1 d2 d3 hsame
                              cases kb
                              all_goals
                                go_wp2_with fail
                                refine ⟨?_, by simp [intOf]; omega⟩
                                first | exact ⟨t2 + 1, _, by omega, rfl, by go_num, HBA⟩ | ((repeat apply Exists.intro); exact ⟨⟨t2 + 1, _, by omega, rfl, by go_num, HBA⟩, rfl⟩)
                          · have e2 : (yv == vd) = false := by simpa using d2
                            clear d1 d2 hsame
                            cases kb
                            all_goals
                              go_wp2_with fail
                              refine ⟨?_, by simp [intOf]; omega⟩
                              first | exact ⟨t2 + 1, _, by omega, rfl, by go_num, HBA⟩ | ((repeat apply Exists.intro); exact ⟨⟨t2 + 1, _, by omega, rfl, by go_num, HBA⟩, rfl⟩)
                        · have e1 : (yb == z1) = false := by simpa using d1
                          clear d1 hsame
                          cases kb
                          all_goals
                            go_wp2_with fail
                            refine ⟨?_, by simp [intOf]; omega⟩
                            first | exact ⟨t2 + 1, _, by omega, rfl, by go_num, HBA⟩ | ((repeat apply Exists.intro); exact ⟨⟨t2 + 1, _, by omega, rfl, by go_num, HBA⟩, rfl⟩)
                      · have ht2z : ¬ (t2 : Int) < (ne : Int) := by omega
                        have HXR : Hid (UidX w wr g q8 x' ev (.slice Ae ne ce) h (k * 70000 + j * 258 + i) (.slice (some ⟨b9, o9, none⟩) nb c9) h9 (.slice (some ⟨bm, om, none⟩) nl c11)) := Lib.hid (HXE.out.later (below_then HBU.out HBR.out))
                        cases kb with
                        | true =>
                          go_wp2_with fail
                          refine ⟨?_, by simp [intOf]; omega⟩
                          first | exact ⟨i + 1, ev, h, by omega, by go_num, Lib.hid (HXR.out.more (by omega))⟩ | ((repeat apply Exists.intro); exact ⟨⟨i + 1, ev, h, by omega, by go_num, Lib.hid (HXR.out.more (by omega))⟩, rfl⟩)
                        | false =>
                          obtain ⟨i0, hii, hz0, hz1, hz2⟩ := info_parts Try.infoUse
                          have HSR : Hid (Sl wr 73 4 (.slice Ae ne ce) h ne (flatG encU ev)) := Lib.hid (by
                            have h1 := HXR.out.r.at_.sl
                            rw [HNE.out] at h1
                            exact h1)
                          have hku := HKU.out.below HBR.out HKU.out.lt
                          have q0 : wr.cell? ⟨U, 0, none⟩ = some (.int .i64 z1) := hku.cell 0
                          have q1 : wr.cell? ⟨U, 1, none⟩ = some (.int .i64 vd) := hku.cell 1
                          have q2 : wr.cell? ⟨U, 2, none⟩ = some (.int .i64 z2) := hku.cell 2
                          have q3 : wr.cell? ⟨U, 3, none⟩ = some (.int .i64 mid) := hku.cell 3
                          clear hku
                          go_wp2_with (first
                            | (at_builtin; refine wpList_append_sl rfl _ _ 69 rfl Tryz.underlying69 hii hz0 hz1 hz2 rfl (by decide) HSR.out rfl 1 1 rfl rfl ?_ ?_ ?_ ?_)
                            | fail)
                          · simp [Value.oneCell']
                          · unfold maxLen
                            omega
                          · omega
                          · intro v2 h2 w3 hs3 hc3 ho3
                            have HG := Lib.hid (HXR.out.grown (Below.refl _ wr) HMX.out HPM.out ⟨⟨z1, z2, mid⟩, vd⟩ (by rw [HMID.out]) (by rw [HNE.out]; exact hs3) hc3 ho3)
                            clear hs3 hc3 ho3
                            go_wp2_with fail
                            refine ⟨?_, by simp [intOf]; omega⟩
                            first | exact ⟨i + 1, _, _, by omega, by go_num, Lib.hid (HG.out.more (by omega))⟩ | ((repeat apply Exists.intro); exact ⟨⟨i + 1, _, _, by omega, by go_num, Lib.hid (HG.out.more (by omega))⟩, rfl⟩)
              · have hiz : ¬ (i : Int) < (nm : Int) := by omega
                obtain ⟨Ae, ce, hve, _, _⟩ := HX.out.r.at_.sl.form
                subst hve
                obtain ⟨bm', om', Am', cm', hA', _, y5, _⟩ := HMC.out wr ev _ h _ HX.out
                injection hA' with hA'
                injection hA' with e1 e2 _
                subst e1 e2
                go_wp2_with fail
                refine ⟨?_, by simp [intOf]; omega⟩
                first | exact ⟨j + 1, ev, h, by omega, by go_num, Lib.hid (HX.out.more (by omega))⟩ | ((repeat apply Exists.intro); exact ⟨⟨j + 1, ev, h, by omega, by go_num, Lib.hid (HX.out.more (by omega))⟩, rfl⟩)
          · have hjz : ¬ (j : Int) < (nl : Int) := by omega
            obtain ⟨Ae, ce, hve, _, _⟩ := HX.out.r.at_.sl.form
            subst hve
            go_wp2_with fail
            refine ⟨?_, by simp [intOf]; omega⟩
            first | exact ⟨k + 1, q8, x', ev, h, by omega, by go_num, Lib.hid (HX.out.r.more (by omega))⟩ | ((repeat apply Exists.intro); exact ⟨⟨k + 1, q8, x', ev, h, by omega, by go_num, Lib.hid (HX.out.r.more (by omega))⟩, rfl⟩)
      · have hltz : ¬ (k : Int) < (n : Int) := by omega
        have haw := fun W => awake_any HAPP.out W
        go_wp2_with (first
          | (go_at_call 15; refine (haw _).mono ?_; rintro e1 w13 ⟨rfl, hb13⟩; have HB13 := Lib.hid hb13; clear hb13 haw)
          | fail)
        go_ret
        exact ⟨rfl, below_then HU.out.own.below HB13.out⟩

end Go.Proofs.YtmbibhphpjmboaaGreatDoor
