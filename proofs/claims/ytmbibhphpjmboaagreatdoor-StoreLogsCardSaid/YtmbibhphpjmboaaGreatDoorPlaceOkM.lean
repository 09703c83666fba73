/-
  The store's Place where it places. Printed by gen_placeok.py.
-/
import Derived.Test.YtmbibhphpjmboaaGreatDoorGS
import Derived.Test.YtmbibhphpjmboaaGreatDoorPlaceTellM
import Derived.Test.YtmbibhphpjmboaaGreatDoorGX
import Derived.Test.YtmbibhphpjmboaaGreatDoorGD
import Derived.Deep.QuietTactic
import Derived.Deep.RegionLaw
import Derived.Deep.DrawnRows
import Derived.Deep.DeepCutAuto
import Derived.Deep.CutBlock
namespace Go.Proofs.YtmbibhphpjmboaaGreatDoor
open Go.Shelf Go.RowKit
attribute [local go_sem ↓] Go.wp_at_zero Go.wp_at_succ

theorem rise_ne {bs : List Int} (h : bs ≠ []) : rise bs ≠ [] := by
  obtain ⟨i, hi⟩ : ∃ i, i ∈ bs := by
    cases bs with
    | nil => exact absurd rfl h
    | cons i r => exact ⟨i, by simp⟩
  intro e
  have h1 := (mem_rise bs i).2 hi
  rw [e] at h1
  cases h1
/-- The account behind a Place that places. -/
def placedA (x : Acc) (id : Int) (i : Nat) (p : MailP) (fr lf : List Int) : Acc :=
  { x with clock := x.clock + 1, boxes := turnBoxes (x.clock + 1) (rise (lf ++ fr)) (numbers fr x.boxes).1, mails := x.mails.set i { p with members := sortM ((p.members.filter fun p => !decide (p.1 ∈ lf)) ++ (numbers fr x.boxes).2), mod := x.clock + 1 }, log := x.log.add (turnEnts (x.clock + 1) (rise (lf ++ fr)) ++ [⟨x.clock + 1, 2, id, 2⟩]) }

set_option maxRecDepth 100000 in
set_option maxHeartbeats 8000000 in
theorem place_ok (w : World) (g : Nat) (q : Lies) (x : Acc) (id : Int) (bs : List Int) (vb : Value) (Sb : List Nat) (h : StoreAt w g q x) (hf : Fit x) (hr : RdS w Sb 1 vb bs.length (bs.map encI)) (hbl : bs.length ≤ 1099511627776) (hne : bs ≠ []) (i : Nat) (hi : i < q.ms.length) (hpl : place (fun m : MailM => decide (m.p.id = id)) q.ms = (i : Int))
    (hw : ((rise bs).any fun id => !hasBox x.boxes id) = false) (m0 : MailM) (hm0 : q.ms[i] = m0) (fr lf : List Int) (hfr : ((rise bs).filter fun b => !decide (b ∈ ids1 m0.p.members)) = fr) (hlf : ((ids1 m0.p.members).filter fun b => !decide (b ∈ rise bs)) = lf) (hsome : 0 < fr.length + lf.length) (hen : ¬ x.cfg.maxMod ≤ x.clock) (hsp : fr.any x.spent = false) :
    Calls Tryz.prog 31 #[.pointer (some ⟨g, 0, none⟩), .int .i64 id, vb] w fun e w' => e = .returned (.int .i64 0) ∧ ∃ q', Turned w w' g q (placedA x id i m0.p fr lf) q' := by
  have H := Lib.hid h
  have HF := Lib.hid hf
  have HFR0 := Lib.hid hfr
  have HLF0 := Lib.hid hlf
  have HNE := Lib.hid hne
  have hrne : rise bs ≠ [] := rise_ne hne
  have HRNE := Lib.hid hrne
  have HSP := Lib.hid hsp
  clear hrne
  have hin : ∀ j ∈ fr, j ∈ ids x.boxes := fun j hj => by
    rw [← hfr] at hj
    have h1 := (List.mem_filter.1 hj).1
    have h2 := List.any_eq_false.1 hw j h1
    exact (hasBox_iff x.boxes j).1 (by simpa using h2)
  have HIN := Lib.hid hin
  have hfrl : fr.length ≤ (rise bs).length := by rw [← hfr]; exact List.length_filter_le _ _
  have hlfl : lf.length ≤ m0.p.members.length := by rw [← hlf]; exact Nat.le_trans (List.length_filter_le _ _) (by simp [ids1])
  obtain ⟨Ab, cb, hvb, _, _⟩ := hr.form
  subst hvb
  obtain ⟨nb, hnb⟩ : ∃ nb, bs.length = nb := ⟨_, rfl⟩
  have hnbp : 0 < nb := by
    rw [← hnb]
    exact List.length_pos_iff.2 hne
  have hil : i < x.mails.length := by rw [← h.msLen]; exact hi
  obtain ⟨b, off, cap, hv, hhm, hnc, hcm, hblt, hat⟩ := h.mailAt i hil hi
  rw [hm0] at hat
  have hp0 := h.parts _ (List.getElem_mem hi)
  rw [hm0] at hp0
  obtain ⟨Ak0, ck0, hkv, _, _⟩ := hp0.keys.form
  obtain ⟨Av0, cv0, hmv, _, _⟩ := hp0.mem.form
  have hmx : m0.p ∈ x.mails := by rw [← h.same, ← hm0]; exact List.mem_map_of_mem (List.getElem_mem hi)
  have HMX := Lib.hid hmx
  have HM0 := Lib.hid hm0
  have HPT := Lib.hid hp0
  have HNMEM := Lib.hid ((hf.mail m0.p hmx).mem.some_)
  have HCLK := Lib.hid hf.clock
  have HCFG := Lib.hid hf.cfg.mod
  have hnme := hf.nmem hmx
  have hmc := h.mc hf id
  rw [hpl] at hmc
  have hi3 : ¬ (i : Int) < 0 := by omega
  have hi2 : (0 : Int) ≤ (i : Int) := by omega
  obtain ⟨n, hnn⟩ : ∃ n, x.mails.length = n := ⟨_, rfl⟩
  rw [hnn] at hv
  have HV := Lib.hid hv
  have hi1 : (i : Int) < (n : Int) := by omega
  have hbn : x.boxes.length ≤ 1099511627776 := by have := hf.nb; have := hf.clock; have := hf.cfg.mod; omega
  have hrl : (rise bs).length ≤ 1099511627776 := Nat.le_trans (rise_length _) hbl
  have hwa := fun W (hb : Below w.heap.size w W) => wanted_any W g q x (h.later hb) hbn bs _ Sb (hr.below hb) hbl
  rw [hw] at hwa
  have hq0 : ((nb : Int) == 0) = false := by simp; omega
  have hcs : ∀ W, Below w.heap.size w W → W.cell? ⟨g, 11, none⟩ = some (.slice (some ⟨b, off, none⟩) n cap) ∧ ∀ j, j < 8 → W.cell? ⟨b, off + i * 8 + j, none⟩ = (encM m0)[j]? := fun W hb => ⟨by rw [(h.later hb).cell11, hv], fun j hj => (hb.cell hblt).trans (hat j hj).1⟩
  have hme : ∀ W, Below w.heap.size w W → RdS W [] 2 m0.mv m0.p.members.length (flatG encMem m0.p.members) := fun W hb => (hp0.mem.below hb).sub (fun _ _ _ hm => by cases hm)
  rw [hnb] at hwa
  rw [hnb]
  obtain ⟨ns, hns⟩ : ∃ ns, (rise bs).length = ns := ⟨_, rfl⟩
  rw [hns] at hwa hrl
  have HWA := Lib.hid hwa
  have HCS := Lib.hid hcs
  have HME := Lib.hid hme
  have HKV := Lib.hid hkv
  have HMV := Lib.hid hmv
  have HFR := Lib.hid hfr
  have HLF := Lib.hid hlf
  have HNS := Lib.hid hns
  have HFRL := Lib.hid hfrl
  have HLFL := Lib.hid hlfl
  have HSOME := Lib.hid hsome
  clear hin hwa hcs hme hkv hmv hfr hlf hns hpl hw hr hv hat hp0 hm0 hmx h hf hne hnb hnn hhm hfrl hlfl hsome
  go_enter Tryz.func31, Tryz.ntmps31
  go_upto_region 11 with (first
    | (go_at_call 63; refine hmc.mono ?_; rintro e w1 ⟨rfl, hb1⟩; have hwc := HWA.out w1 hb1; have HB1 := Lib.hid hb1; clear hmc hb1)
    | (go_at_call 52; refine hwc.mono ?_; rintro e w2 ⟨v2, h2, rfl, hs2, ho2, hb2⟩; obtain ⟨A2, c2, rfl, _, _⟩ := hs2.form; have HS2 := Lib.hid hs2; have HO2 := Lib.hid ho2; have HB2 := Lib.hid (below_then HB1.out hb2); clear hwc hs2 ho2 hb2)
    | fail)
  obtain ⟨wa, hwa⟩ : ∃ wa : World, wa = w2.alloc (.cells #[.slice A2 ns c2] 32) := ⟨_, rfl⟩
  rw [← hwa]
  obtain ⟨C, hC⟩ : ∃ C, C = w2.heap.size := ⟨_, rfl⟩
  rw [← hC]
  have dC : wa.cell? ⟨C, 0, none⟩ = some (.slice A2 ns c2) := by rw [hwa, hC]; exact (Blk.new w2 32 #[.slice A2 ns c2]).cell 0
  have hba : Below w.heap.size w wa := by rw [hwa]; exact below_then HB2.out (below_alloc1 _ _)
  have hsa : Sl wa 3 1 (.slice A2 ns c2) h2 ns ((rise bs).map encI) := by rw [hwa]; exact HS2.out.alloc _
  obtain ⟨k11, hat⟩ := HCS.out wa hba
  have b0 : wa.cell? ⟨b, off + i * 8, none⟩ = some (.int .i64 m0.p.id) := hat 0 (by omega)
  have b1 : wa.cell? ⟨b, off + i * 8 + 1, none⟩ = some (.int .i64 m0.p.thread) := hat 1 (by omega)
  have b2 : wa.cell? ⟨b, off + i * 8 + 2, none⟩ = some (.string ⟨m0.p.text.toArray⟩) := hat 2 (by omega)
  have b3 : wa.cell? ⟨b, off + i * 8 + 3, none⟩ = some (.int .i64 m0.p.at_) := hat 3 (by omega)
  have b4 : wa.cell? ⟨b, off + i * 8 + 4, none⟩ = some (.slice Ak0 m0.p.keys.length ck0) := (hat 4 (by omega)).trans (by rw [← HKV.out]; rfl)
  have b5 : wa.cell? ⟨b, off + i * 8 + 5, none⟩ = some (.slice Av0 m0.p.members.length cv0) := (hat 5 (by omega)).trans (by rw [← HMV.out]; rfl)
  have b6 : wa.cell? ⟨b, off + i * 8 + 6, none⟩ = some (.int .i64 m0.p.mod) := hat 6 (by omega)
  have b7 : wa.cell? ⟨b, off + i * 8 + 7, none⟩ = some (.int .i64 m0.p.born) := hat 7 (by omega)
  have hwi := within_any wa m0.p.id m0.p.thread m0.p.at_ m0.p.mod m0.p.born ⟨m0.p.text.toArray⟩ (.slice Ak0 m0.p.keys.length ck0) (.slice Av0 m0.p.members.length cv0) m0.p.members (by
    have h1 := HME.out wa hba
    rw [HMV.out] at h1
    exact h1) (by omega)
  have HBA := Lib.hid hba
  have HSA := Lib.hid hsa
  have HDC := Lib.hid dC
  clear hat hwa hC hba hsa dC
  go_upto_region 12 with (first
    | (go_at_call 66; refine hwi.mono ?_; rintro e w3 ⟨v3, h3, rfl, hs3, ho3, hb3⟩; obtain ⟨A3, c3, rfl, _, _⟩ := hs3.form; have HS3 := Lib.hid hs3; have HO3 := Lib.hid ho3; have HB3 := Lib.hid hb3; clear hwi hs3 ho3 hb3)
    | fail)
  clear b0 b1 b2 b3 b4 b5 b6 b7 k11
  obtain ⟨nw, hnw⟩ : ∃ nw, m0.p.members.length = nw := ⟨_, rfl⟩
  have HNW : Hid ((ids1 m0.p.members).length = nw) := Lib.hid (by rw [← hnw]; simp [ids1])
  obtain ⟨wb, hwb⟩ : ∃ wb : World, wb = w3.alloc (.cells #[.slice A3 m0.p.members.length c3] 32) := ⟨_, rfl⟩
  rw [← hwb]
  obtain ⟨D, hD⟩ : ∃ D, D = w3.heap.size := ⟨_, rfl⟩
  rw [← hD]
  have hbb : Below wa.heap.size wa wb := by rw [hwb]; exact below_then HB3.out (below_alloc1 _ _)
  have dD : wb.cell? ⟨D, 0, none⟩ = some (.slice A3 nw c3) := by rw [hwb, hD, ← hnw]; exact (Blk.new w3 32 #[.slice A3 m0.p.members.length c3]).cell 0
  have dC : wb.cell? ⟨C, 0, none⟩ = some (.slice A2 ns c2) := (hbb.cell (p := ⟨C, 0, none⟩) (World.block_lt_of_cell? _ _ HDC.out)).trans HDC.out
  have hsb2 : Sl wb 3 1 (.slice A2 ns c2) h2 (rise bs).length ((rise bs).map encI) := by rw [HNS.out]; exact HSA.out.keep (fun b2 hb2 => hbb.block b2 (HSA.out.lt b2 hb2))
  have hsb3 : Sl wb 3 1 (.slice A3 nw c3) h3 (ids1 m0.p.members).length ((ids1 m0.p.members).map encI) := by
    rw [HNW.out, hwb, ← hnw]
    exact HS3.out.alloc _
  have hcl := cloneI_any wb (.slice A2 ns c2) (rise bs) [] (hsb2.reads [] (by simp)) (by rw [HNS.out]; exact hrl)
  rw [HNS.out] at hcl
  have hnwb : nw ≤ 1099511627776 := by omega
  have HBB := Lib.hid (below_then HBA.out hbb)
  have HSB2 := Lib.hid hsb2
  have HSB3 := Lib.hid hsb3
  have HDD := Lib.hid dD
  have HDC2 := Lib.hid dC
  clear hwb hD hbb hsb2 hsb3 dD hnw
  go_upto_region 13 with (first
    | (go_at_call 82; refine hcl.mono ?_; rintro e w4 ⟨v4, h4, rfl, hs4, hb4, ho4⟩; have hdl := delBy2 (w0 := wb) (w4 := w4) (v4 := v4) (h4 := h4) (l := rise bs) (k := ids1 m0.p.members) 83 HRNE.out (enters_of Tryz.func83 (by kernel_rfl) rfl) (fun y W hB hr hn => inPred1_any y D _ _ W hB hr hn) HDD.out HSB3.out (by rw [HNW.out]; exact hnwb) (by rw [HNS.out]; exact hs4) (by rw [HNS.out]; exact hrl) hb4 ho4; rw [HFR.out] at hdl; clear hcl hs4 ho4 hb4)
    | (go_at_call 81; refine hdl.mono ?_; rintro e w5 ⟨A5, n5, c5, h5, rfl, hn5, hs5, ho5, hb5⟩; have HO5 := Lib.hid ho5; have HN5 := Lib.hid hn5; have HS5 := Lib.hid hs5; have HB5 := Lib.hid hb5; clear hdl hs5 ho5 hb5 hn5)
    | fail)
  have dD5 : w5.cell? ⟨D, 0, none⟩ = some (.slice A3 nw c3) := (HB5.out.cell (p := ⟨D, 0, none⟩) (World.block_lt_of_cell? _ _ HDD.out)).trans HDD.out
  have dC5 : w5.cell? ⟨C, 0, none⟩ = some (.slice A2 ns c2) := (HB5.out.cell (p := ⟨C, 0, none⟩) (World.block_lt_of_cell? _ _ HDC2.out)).trans HDC2.out
  have h25 : Sl w5 3 1 (.slice A2 ns c2) h2 (rise bs).length ((rise bs).map encI) := HSB2.out.keep (fun b2 hb2 => HB5.out.block b2 (HSB2.out.lt b2 hb2))
  have h35 : Sl w5 3 1 (.slice A3 nw c3) h3 (ids1 m0.p.members).length ((ids1 m0.p.members).map encI) := HSB3.out.keep (fun b2 hb2 => HB5.out.block b2 (HSB3.out.lt b2 hb2))
  have hcl2 := cloneI_any w5 (.slice A3 nw c3) (ids1 m0.p.members) [] (h35.reads [] (by simp)) (by rw [HNW.out]; exact hnwb)
  rw [HNW.out] at hcl2
  have HDC5 := Lib.hid dC5
  have H25 := Lib.hid h25
  clear dC5 h25 h35
  go_upto_region 14 with (first
    | (go_at_call 82; refine hcl2.mono ?_; rintro e w6 ⟨v6, h6, rfl, hs6, hb6, ho6⟩; have hdl2 := delBy2 (w0 := w5) (w4 := w6) (v4 := v6) (h4 := h6) (l := ids1 m0.p.members) (k := rise bs) 85 (by simpa [ids1] using HNMEM.out) (enters_of Tryz.func85 (by kernel_rfl) rfl) (fun y W hB hr hn => inPred2_any y C _ _ W hB hr hn) HDC5.out H25.out (by rw [HNS.out]; exact hrl) (by rw [HNW.out]; exact hs6) (by rw [HNW.out]; exact hnwb) hb6 ho6; rw [HLF.out] at hdl2; clear hcl2 hs6 ho6 hb6)
    | (go_at_call 81; refine hdl2.mono ?_; rintro e w7 ⟨A7, n7, c7, h7, rfl, hn7, hs7, ho7, hb7⟩; have HO7 := Lib.hid ho7; have HS7 := Lib.hid hs7; have HN7 := Lib.hid hn7; have HB7 := Lib.hid hb7; clear hdl2 hs7 ho7 hb7 hn7)
    | fail)
  obtain ⟨w8, hw8⟩ : ∃ w8 : World, w8 = w7.alloc (.cells #[.slice (some A7) n7 c7] 32) := ⟨_, rfl⟩
  rw [← hw8]
  obtain ⟨D7, hD7⟩ : ∃ D7, D7 = w7.heap.size := ⟨_, rfl⟩
  rw [← hD7]
  have d7 : w8.cell? ⟨D7, 0, none⟩ = some (.slice (some A7) n7 c7) := by rw [hw8, hD7]; exact (Blk.new w7 32 #[.slice (some A7) n7 c7]).cell 0
  have hb8 : Below w.heap.size w w8 := by rw [hw8]; exact below_then (below_then HBB.out HB5.out) (below_then HB7.out (below_alloc1 _ _))
  have hs8 : Sl w8 3 1 (.slice (some A5) n5 c5) h5 n5 (fr.map encI) := by
    rw [hw8]
    exact (HS5.out.keep (fun b2 hb2 => HB7.out.block b2 (HS5.out.lt b2 hb2))).alloc _
  have hs87 : Sl w8 3 1 (.slice (some A7) n7 c7) h7 n7 (lf.map encI) := by
    rw [hw8]
    exact HS7.out.alloc _
  have hbd8 : Blk w8 D7 32 #[.slice (some A7) n7 c7] := by rw [hw8, hD7]; exact Blk.new w7 32 #[.slice (some A7) n7 c7]
  have hd7n : w.heap.size ≤ D7 := by rw [hD7]; exact (below_then (below_then HBB.out HB5.out) HB7.out).size
  have HS87 := Lib.hid hs87
  have HBD8 := Lib.hid hbd8
  have HD7N := Lib.hid hd7n
  have HB8 := Lib.hid hb8
  have HS8 := Lib.hid hs8
  obtain ⟨nt, hnt, hntp⟩ : ∃ nt : Nat, (n5 : Int) + (n7 : Int) = (nt : Int) ∧ 0 < nt := ⟨n5 + n7, by omega, by have := HN5.out; have := HN7.out; have := HSOME.out; omega⟩
  have hn5b : n5 ≤ 1099511627776 := by have := HN5.out; have := HFRL.out; have := HNS.out; omega
  have hn7b : n7 ≤ 1099511627776 := by have := HN7.out; have := HLFL.out; have := HNW.out; simp only [ids1, List.length_map] at this; omega
  have hntb : nt ≤ 2199023255552 := by omega
  have hqt : ((nt : Int) == 0) = false := by simp; omega
  have c9 := (H.out.later hb8).cell9
  have c6 : w8.cell? ⟨g, 6, none⟩ = some (.int .i64 x.cfg.maxMod) := (H.out.later hb8).cells 6
  clear hw8 hD7 hb8 hs8 hs87 hbd8 hd7n
  have hsc : ∀ W, Below w8.heap.size w8 W → Calls Tryz.prog 54 #[.slice (some A5) n5 c5, .func (.func 55) #[.pointer (some ⟨g, 0, none⟩)] #[]] W fun e w' => e = .returned (.bool (fr.any x.spent)) ∧ Below W.heap.size W w' := fun W hb => by
    have hs9 : Sl W 3 1 (.slice (some A5) n5 c5) h5 fr.length (fr.map encI) := by
      rw [← HN5.out]
      exact HS8.out.keep (fun b2 hb2 => hb.block b2 (HS8.out.lt b2 hb2))
    exact hasJ_any _ [] fr x.spent _ _ (enters_of Tryz.func55 (by kernel_rfl) rfl) W (hs9.reads [] (by simp)) (by rw [← HN5.out]; exact hn5b) (fun W2 hb2 y hy => (spent_any W2 g q x (H.out.later (below_then (below_then HB8.out hb) hb2)) hbn y (HIN.out y hy)).mono fun e w' ⟨e1, e2⟩ => ⟨e1, below_then hb2 e2⟩)
  rw [hsp] at hsc
  have HSC := Lib.hid hsc
  clear hsc hsp
  have hcl := HCLK.out
  have hmo := HCFG.out
  go_upto_region 20 with (first
    | (go_at_call 53; refine (ends_any g x.clock x.cfg.maxMod _ ((cell_heap (w := w8) (by rfl) _).trans c9) ((cell_heap (w := w8) (by rfl) _).trans c6)).mono ?_; rintro e w9 ⟨rfl, ne, rfl⟩)
    | (go_at_call 54; refine (HSC.out _ (below_drewN' (Below.refl _ _) _)).mono ?_; rintro e w10 ⟨rfl, hb10⟩; have hbx := (below_then (below_drewN' (Below.refl w8.heap.size w8) _) hb10); have HBX := Lib.hid hbx; have H10 := Lib.hid (H.out.later (below_then HB8.out hbx)); have hst10 := step_any g x.clock w10 H10.out.cell9 (H10.out.frozen 9) (by omega); clear hb10 hbx)
    | (go_at_call 56; refine hst10.mono ?_; rintro e w11 ⟨rfl, hw11⟩; have t11 := H10.out.setStruct 9 (.int .i64 (x.clock + 1)) { x with clock := x.clock + 1 } rfl rfl rfl rfl; rw [← hw11] at t11; have T11 := Lib.hid ((Turned.of_below H.out (below_then HB8.out HBX.out)).trans t11); have HW11 := Lib.hid hw11; clear hst10 hw11 t11)
    | fail)
  clear d7 c9 c6 hqt
  obtain ⟨x9, hx9⟩ : ∃ x9 : Acc, x9 = { x with clock := x.clock + 1 } := ⟨_, rfl⟩
  have t11 : Turned w w11 g q x9 q := by rw [hx9]; exact T11.out
  have HBX9 : Hid (x9.boxes = x.boxes) := Lib.hid (by rw [hx9])
  have hfrn : fr.Nodup := by
    rw [← HFR0.out]
    exact (List.filter_sublist (l := rise bs)).nodup (rise_nodup bs)
  have hnxl : ∀ k (hk : k < fr.length), 0 ≤ nextOf (numbers (fr.take k) x9.boxes).1 fr[k] ∧ nextOf (numbers (fr.take k) x9.boxes).1 fr[k] ≤ 4294967296 := fun k hk => by
    rw [HBX9.out]
    exact numbers_next HF.out.cfg HF.out.idsB HF.out.box (fr.take k) (hfrn.sublist (List.take_sublist _ _)) (fun i hi => by
      have h1 := (List.any_eq_false.1 HSP.out) i (List.mem_of_mem_take hi)
      have h2 : ¬ x.cfg.maxUid < nextOf x.boxes i := by simpa [Acc.spent] using h1
      omega) _ (HIN.out _ (List.getElem_mem hk))
  have HNX := Lib.hid hnxl
  have HO5W : Hid (∀ b, h5 = some b → w.heap.size ≤ b) := Lib.hid (fun b hb => Nat.le_trans HBB.out.size (HO5.out b hb))
  have HO7W : Hid (∀ b, h7 = some b → w.heap.size ≤ b) := Lib.hid (fun b hb => Nat.le_trans (below_then HBB.out HB5.out).size (HO7.out b hb))
  have hn7c : n7 ≤ 4294967296 := by have := HN7.out; have := HLFL.out; omega
  have hn5c : n5 ≤ 4294967296 := by
    have h1 := nodup_sub_length fr (ids x.boxes) hfrn (fun j hj => HIN.out j hj)
    have h2 := HF.out.nb
    have h3 := HN5.out
    have h4 : (ids x.boxes).length = x.boxes.length := by simp [ids]
    omega
  clear hnxl hfrn
  have hgw : g < w.heap.size := H.out.blk.lt
  have hs11 : Sl w11 3 1 (.slice (some A5) n5 c5) h5 n5 (fr.map encI) := by
    rw [HW11.out]
    refine (HS8.out.keep (w' := w10) (fun b2 hb2 => HBX.out.block b2 (HS8.out.lt b2 hb2))).far (p := ⟨g, 9, none⟩) (fun e => ?_) _
    have h1 := HO5.out g e
    have h2 := HBB.out.size
    omega
  have hs711 : Sl w11 3 1 (.slice (some A7) n7 c7) h7 n7 (lf.map encI) := by
    rw [HW11.out]
    refine (HS87.out.keep (w' := w10) (fun b2 hb2 => HBX.out.block b2 (HS87.out.lt b2 hb2))).far (p := ⟨g, 9, none⟩) (fun e => ?_) _
    have h1 := HO7.out g e
    have h2 := (below_then HBB.out HB5.out).size
    omega
  have hd11 : Blk w11 D7 32 #[.slice (some A7) n7 c7] := by
    rw [HW11.out]
    refine (HBD8.out.below HBX.out HBD8.out.lt).far (p := ⟨g, 9, none⟩) (fun e => ?_) _
    have h1 := HD7N.out
    have h2 : D7 = g := e
    omega
  have hst9 := t11.at_
  have hm11 : w11.cell? ⟨g, 11, none⟩ = some (.slice (some ⟨b, off, none⟩) n cap) := by rw [hst9.cell11, HV.out]
  have hself : q.ms = q.ms.set i m0 := by rw [← HM0.out, List.set_getElem_self]
  obtain ⟨hbw, hmc11⟩ := mailCellOf (q := q) (m1 := m0) (by
    have h1 := hst9
    rw [← hself]
    exact h1) HV.out hi
  have a5 : w11.cell? ⟨b, off + i * 8 + 5, none⟩ = some (.slice Av0 m0.p.members.length cv0) := ((hmc11 5 (by omega)).1).trans (by rw [← HMV.out]; rfl)
  have hpt11 : PartAt w11 (q.own g) m0 := by
    have h1 := hst9.parts q.ms[i] (List.getElem_mem hi)
    rw [HM0.out] at h1
    exact h1
  have hmrd : RdS w11 [] 2 (.slice Av0 m0.p.members.length cv0) m0.p.members.length (flatG encMem m0.p.members) := by
    rw [← HMV.out]
    exact hpt11.mem.sub (fun _ _ _ hm => by cases hm)
  have hclm := cloneMem_any w11 _ _ _ hmrd (flatG_one encMem_one _) (by omega)
  have hself2 : { q with ms := q.ms.set i m0 } = q := by rw [← hself]
  have HSELF := Lib.hid hself
  have T9 := Lib.hid t11
  have HX9 := Lib.hid hx9
  have HS11 := Lib.hid hs11
  have HS711 := Lib.hid hs711
  have HD11 := Lib.hid hd11
  have HST9 := Lib.hid hst9
  have HPT11 := Lib.hid hpt11
  have HMC11 := Lib.hid hmc11
  clear hx9 t11 hs11 hs711 hd11 hst9 hpt11 hmrd hself hself2 hmc11 T11 HW11 HBX H10 HB8 HS8 HS87 HBD8 HSC HPT HWA HCS HME HFRL HLFL HSB2 HSB3 HDD HDC2 HDC5 H25 HSA HDC HB3 HO3 HS3 HS2 HO2 HB2 HB1
  go_upto_region 21 with (fail)
  obtain ⟨base, hbase⟩ : ∃ base, (m0.p.members.filter fun p => !decide (p.1 ∈ lf)) = base := ⟨_, rfl⟩
  have HBASE := Lib.hid hbase
  clear hm11 hbase
  have hlf32 : n7 ≤ 1099511627776 := hn7b
  have hp3 : ∀ (w12 : World) (h12 : Option Nat), Below w11.heap.size w11 w12 → (∀ b, h12 = some b → w11.heap.size ≤ b) → ∀ W, Chg h12.toList w12 W → ∀ y ∈ m0.p.members, Calls Tryz.prog 88 (#[.agg (encMem y).toArray] ++ #[.pointer (some ⟨D7, 0, none⟩)]) W fun e w' => e = .returned (.bool ((fun p : Int × Int => decide (p.1 ∈ lf)) y)) ∧ Below W.heap.size W w' := by
    intro w12 h12 hb ho W hc y _
    have hbW : Below w11.heap.size w11 W := hb.trans (hc.below hb.size (fun k hk => ho k (by simpa using hk)))
    exact inPred3_any y D7 (.slice (some A7) n7 c7) lf W ((HD11.out.below hbW HD11.out.lt).cell 0) (by
      have h1 := (HS711.out.keep (fun b2 hb2 => hbW.block b2 (HS711.out.lt b2 hb2))).reads [] (by simp)
      rw [← HN7.out]
      exact h1) (by rw [← HN7.out]; exact hlf32)
  have HP3 := Lib.hid hp3
  clear hp3
  go_upto_region 22 with (first
    | (go_at_call 87; refine hclm.mono ?_; rintro e w12 ⟨v12, h12, rfl, hs12, hb12, ho12⟩; have hdm := delP_any v12 h12 m0.p.members (fun p => decide (p.1 ∈ lf)) 88 #[.pointer (some ⟨D7, 0, none⟩)] (enters_of Tryz.func88 (by kernel_rfl) rfl) w12 hs12 (by omega) (HP3.out w12 h12 hb12 ho12); rw [HBASE.out] at hdm; have HO12 := Lib.hid ho12; have HB12 := Lib.hid hb12; clear hclm hs12 hb12 ho12)
    | (go_at_call 86; refine hdm.mono ?_; rintro e w13 ⟨v13, rfl, hs13, hc13⟩; obtain ⟨A13, c13, rfl, _, _⟩ := hs13.form; have hb13 : Below w11.heap.size w11 w13 := HB12.out.trans (hc13.below HB12.out.size (fun k hk => HO12.out k (by simpa using hk))); have f5 : w13.frozen? ⟨b, off + i * 8 + 5, none⟩ = false := (below_frozen hb13 (p := ⟨b, off + i * 8 + 5, none⟩) hbw).trans (HMC11.out 5 (by omega)).2; have a13 : w13.cell? ⟨b, off + i * 8 + 5, none⟩ = some (.slice Av0 m0.p.members.length cv0) := (hb13.cell (p := ⟨b, off + i * 8 + 5, none⟩) hbw).trans a5; have HS13 := Lib.hid hs13; have HC13 := Lib.hid hc13; have HB13 := Lib.hid hb13; clear hdm hs13 hc13 hb13)
    | fail)
  obtain ⟨w14, hw14⟩ : ∃ w14 : World, w14 = w13.setCell ⟨b, off + i * 8 + 5, none⟩ (.slice A13 base.length c13) := ⟨_, rfl⟩
  rw [← hw14]
  have HR0 : Hid (PlRel w11 w14 g q x9 i m0 base [] (.slice A13 base.length c13) h12) := Lib.hid (by
    rw [hw14]
    exact PlRel.start HST9.out hi HM0.out HV.out ((Chg.of_below HB12.out _).trans HC13.out (fun k hk => .inl hk)) HO12.out HS13.out HB13.out)
  obtain ⟨nb0, hnb0⟩ : ∃ nb0, base.length = nb0 := ⟨_, rfl⟩
  rw [hnb0] at HR0
  try rw [hnb0]
  have HNB0 := Lib.hid hnb0
  clear hw14 f5 a13 a5 hnb0 HP3
  have hnb0b : nb0 ≤ 4294967296 := by
    rw [← HNB0.out, ← HBASE.out]
    exact Nat.le_trans (List.length_filter_le _ _) hnme
  obtain ⟨i0, hi0, hz0, hz1, hz2⟩ := info_parts Try.infoMember2
  go_upto_block 2 with (fail)
  go_cut [] (fun wx => ∃ A9 nk c9 h9, Hid (nk = (base ++ (numbers fr x9.boxes).2).length) ∧ Hid (PlRel w11 wx g q x9 i m0 base fr (.slice A9 nk c9) h9))
  case first =>
    go_wp2_with fail
    go_loopw [87] (fun iv wr => ∃ (k : Nat) (A9 : Option Addr) (nk c9 : Nat) (h9 : Option Nat), k ≤ n5 ∧ iv = .int .i64 k ∧ Hid (nk = nb0 + k) ∧ Hid (PlRel w11 wr g q x9 i m0 base (fr.take k) (.slice A9 nk c9) h9)) (fun iv _ => n5 - (intOf iv).toNat)
    case atStart => exact ⟨0, A13, nb0, c13, h12, Nat.zero_le _, rfl, Lib.hid rfl, HR0⟩
    case round =>
      obtain ⟨k, A9, nk, c9, h9, hk, rfl, HNK, HU⟩ := hrel
      by_cases hlt : k < n5
      · have hkf : k < fr.length := by rw [← HN5.out]; exact hlt
        have hltz : (k : Int) < (n5 : Int) := by omega
        have hk0 : (0 : Int) ≤ (k : Int) := by omega
        have hkw : IntKind.i64.wrap ((k : Int) + 1) = (k : Int) + 1 := IntWalk.i64_in _ (by omega)
        have hS := HS11.out.fresh HO5W.out H.out HU.out.st.chg
        obtain ⟨b3, off3, cap3', _, hv3, _, _, hb3, hat3⟩ := hS.at_ (by omega)
        injection hv3 with hv1 hv2 hv3
        injection hv1 with hv1
        subst hv1 hv3
        clear hv2
        obtain ⟨id1, hidd⟩ : ∃ id1, fr[k] = id1 := ⟨_, rfl⟩
        have cs : wr.cell? ⟨b3, off3 + k, none⟩ = some (.int .i64 id1) := (hat3 k (by omega)).1.trans (by simp [hkf, encI, hidd])
        have hidn : id1 ∈ ids (numbers (fr.take k) x9.boxes).1 := by
          rw [numbers_ids, HBX9.out, ← hidd]
          exact HIN.out _ (List.getElem_mem hkf)
        have hnx := HNX.out k hkf
        rw [hidd] at hnx
        obtain ⟨nxv, hnxv⟩ : ∃ nxv, nextOf (numbers (fr.take k) x9.boxes).1 id1 = nxv := ⟨_, rfl⟩
        have hnum : ∀ W, Below wr.heap.size wr W → Calls Tryz.prog 58 #[.pointer (some ⟨g, 0, none⟩), .int .i64 id1] W fun e w' => e = .returned (.agg #[.int .i64 id1, .int .i64 nxv]) ∧ Turned W w' g { q with ms := q.ms.set i ⟨plMail m0.p base (fr.take k) x9.boxes, m0.kv, .slice A9 nk c9⟩ } { plAcc x9 i m0.p base (fr.take k) with boxes := bump id1 (numbers (fr.take k) x9.boxes).1 } { q with ms := q.ms.set i ⟨plMail m0.p base (fr.take k) x9.boxes, m0.kv, .slice A9 nk c9⟩ } := fun W hb => by
          have h1 := number_any W g _ _ (HU.out.st.at_.later hb) (by
            show (numbers (fr.take k) x9.boxes).1.length ≤ _
            rw [numbers_len, HBX9.out]
            exact hbn) id1 hidn hnx
          rw [← hnxv]
          exact h1
        have hlen : (base ++ (numbers (fr.take k) x9.boxes).2).length = nk := by
          obtain ⟨A, c, hv, _⟩ := HU.out.mem.form
          injection hv with _ e _
          exact e.symm
        have hms : Sl wr 71 2 (.slice A9 nk c9) h9 nk (flatG encMem (base ++ (numbers (fr.take k) x9.boxes).2)) := by
          have h1 := HU.out.mem
          rw [hlen] at h1
          exact h1
        obtain ⟨hbr, hmcr⟩ := mailCellOf HU.out.st.at_ HV.out hi
        have cB : wr.cell? ⟨b, off + i * 8 + 5, none⟩ = some (.slice A9 nk c9) := (hmcr 5 (by omega)).1
        have hnkb : nk ≤ 8589934592 := by have := HNK.out; omega
        have HNUM := Lib.hid hnum
        have HMS := Lib.hid hms
        have HLEN := Lib.hid hlen
        have HNXV := Lib.hid hnxv
        have HIDD := Lib.hid hidd
        clear hS hat3 hidd hidn hnx hnxv hnum hlen hms hmcr
        go_wp2_with fail
        go_region_law (first
          | (refine step_call (by rfl) (by rfl) (enters_of Tryz.func58 (by kernel_rfl) rfl) (by simp [Act.eval, Act.put]) (HNUM.out _ (below_drew1 _)) ?_; rintro e w18 ⟨rfl, ht8⟩; refine ⟨_, rfl, ?_⟩; have HT8 := Lib.hid ((Turned.of_below HU.out.st.at_ (below_drew1 _)).trans ht8); have HM8 := Lib.hid (HMS.out.chg HT8.out.chg (fun b2 hb2 hm => by have h1 := HST9.out.lt b2 hm; have h2 := HU.out.new b2 hb2; omega)); obtain ⟨hb8, hmc8⟩ := mailCellOf HT8.out.at_ HV.out hi; have cB8 : w18.cell? ⟨b, off + i * 8 + 5, none⟩ = some (.slice A9 nk c9) := (hmc8 5 (by omega)).1; have fB8 : w18.frozen? ⟨b, off + i * 8 + 5, none⟩ = false := (hmc8 5 (by omega)).2; have hhB : b ∉ h9.toList := (fun hm => by have h2 := HU.out.new b (by simpa using hm); omega); clear ht8 hmc8)
          | (refine step_append_sl _ (by rfl) (.tmp 95) (.tmp 99) _ (by rfl) Tryz.underlying38 hi0 hz0 hz1 hz2 rfl (by omega) (HM8.out.alloc _) (by simp [Act.eval]) w18.heap.size #[.int .i64 id1, .int .i64 nxv] (e' := 71) (fr := (0, 0)) (heap_alloc_new w18 _) 1 1 (by simp [Act.eval]) (by rfl) (by simp [Value.oneCell']) (by unfold maxLen; omega) (by omega) ?_; intro v2 h2 w19 hs9 hc9 ho9; obtain ⟨A10, c10, rfl, _, _⟩ := hs9.form; have fB9 : w19.frozen? ⟨b, off + i * 8 + 5, none⟩ = false := (hc9.frozen (p := ⟨b, off + i * 8 + 5, none⟩) (by simp; omega) hhB).trans ((World.frozen?_alloc_past _ _ _ hb8).trans fB8); have cB9 : w19.cell? ⟨b, off + i * 8 + 5, none⟩ = some (.slice A9 nk c9) := (hc9.cell (p := ⟨b, off + i * 8 + 5, none⟩) (by simp; omega) hhB).trans ((World.cell?_alloc_past _ _ _ hb8).trans cB8))
          | fail)
        all_goals
          have HREL := Lib.hid (HU.out.next (id := id1) HST9.out hi HM0.out HV.out (HT8.out.then_below (below_alloc1 _ _)) (by rw [HLEN.out, HNXV.out]; exact hs9) hc9 ho9)
          have htk : fr.take k ++ [id1] = fr.take (k + 1) := by rw [List.take_succ_eq_append_getElem hkf, HIDD.out]
          rw [htk] at HREL
          clear hs9 hc9 ho9 htk
          go_wp2_with fail
          refine ⟨?_, by simp [intOf]; omega⟩
          first | exact ⟨k + 1, _, _, _, _, by omega, by go_num, Lib.hid (by have := HNK.out; omega), HREL⟩ | ((repeat apply Exists.intro); exact ⟨⟨k + 1, _, _, _, _, by omega, by go_num, Lib.hid (by have := HNK.out; omega), HREL⟩, rfl⟩)
      · have hkn : k = n5 := by omega
        subst hkn
        have htk : fr.take k = fr := List.take_of_length_le (by rw [← HN5.out]; exact Nat.le_refl _)
        rw [htk] at HU
        clear htk
        go_wp2_with fail
        go_meet
        exact ⟨A9, nk, c9, h9, Lib.hid (by rw [List.length_append, numbers_len2, HNB0.out, HNK.out, HN5.out]), HU⟩
  case rest =>
    obtain ⟨A9, nk, c9, h9, HNK, HU⟩ := hcut
    obtain ⟨we, rfl⟩ : ∃ we : World, we = wc := ⟨_, rfl⟩
    obtain ⟨mems, hmems⟩ : ∃ mems, base ++ (numbers fr x9.boxes).2 = mems := ⟨_, rfl⟩
    have hnd : (mems.map (·.1)).Nodup := by
      rw [← hmems, ← HBASE.out, HBX9.out]
      exact placed_keys HF.out HMX.out HFR0.out HLF0.out
    have hsome2 : 0 < mems.length := by
      rw [← hmems, ← HBASE.out, HBX9.out]
      exact placed_some HNE.out HFR0.out HLF0.out
    have hnkl : nk = mems.length := by rw [← hmems]; exact HNK.out
    have hsm := HU.out.mem
    rw [hmems, ← hnkl] at hsm
    obtain ⟨b9, o9, c9', hh9, hv9, _, _, _, _⟩ := hsm.at_ (by omega)
    injection hv9 with hv1 _ hv3
    subst hv1 hv3
    have hnkb : nk ≤ 1099511627776 := by
      rw [hnkl, ← hmems, List.length_append, numbers_len2, HNB0.out, ← HN5.out]
      omega
    have hso := sortMem_any we ⟨b9, o9, none⟩ c9 h9 mems (by rw [← hnkl]; exact hsm) hnd (by omega)
    rw [← hnkl] at hso
    obtain ⟨hbe, hmce⟩ := mailCellOf HU.out.st.at_ HV.out hi
    have cE : we.cell? ⟨b, off + i * 8 + 5, none⟩ = some (.slice (some ⟨b9, o9, none⟩) nk c9) := (hmce 5 (by omega)).1
    have HMEMS := Lib.hid hmems
    have HND := Lib.hid hnd
    have HNKL := Lib.hid hnkl
    have HHH9 := Lib.hid hh9
    clear hmems hnd hsome2 hnkl hsm hmce hh9
    go_upto_region 28 with (first
      | (go_at_call 89; refine hso.mono ?_; rintro e w15 ⟨rfl, hs15, hc15⟩; have HS15 := Lib.hid hs15; have HC15 := Lib.hid hc15; clear hso hs15 hc15)
      | fail)
    have t15 := HU.out.sorted (mems := sortM mems) HST9.out hi HM0.out HC15.out (by rw [sortM_length HND.out, HMEMS.out]) (by rw [HMEMS.out, ← HNKL.out]; exact HS15.out)
    obtain ⟨hb15, hmc15⟩ := mailCellOf t15.at_ HV.out hi
    have c156 : w15.cell? ⟨b, off + i * 8 + 6, none⟩ = some (.int .i64 m0.p.mod) := (hmc15 6 (by omega)).1
    have f156 := (hmc15 6 (by omega)).2
    have T15 := Lib.hid t15
    clear t15 hmc15 cE hbe
    go_upto_region 29 with (fail)
    obtain ⟨wg, hwg⟩ : ∃ wg : World, wg = w15.setCell ⟨b, off + i * 8 + 6, none⟩ (.int .i64 (x.clock + 1)) := ⟨_, rfl⟩
    rw [← hwg]
    obtain ⟨m2, hm2⟩ : ∃ m2 : MailM, m2 = ⟨{ m0.p with members := sortM mems, mod := x.clock + 1 }, m0.kv, .slice (some ⟨b9, o9, none⟩) nk c9⟩ := ⟨_, rfl⟩
    have t16 : Turned w11 wg g q { { plAcc x9 i m0.p base fr with mails := x9.mails.set i { m0.p with members := sortM mems } } with mails := (x9.mails.set i { m0.p with members := sortM mems }).set i m2.p } { q with ms := q.ms.set i m2 } := by
      rw [hwg]
      refine T15.out.turnPart (S := []) (m2 := m2) rfl HST9.out (Chg.refl [] w15) (by simp) HV.out hi (by omega) (by rw [hm2]; rfl) ?_
      have hp := T15.out.at_.parts ⟨{ m0.p with members := sortM mems }, m0.kv, .slice (some ⟨b9, o9, none⟩) nk c9⟩ (List.mem_iff_getElem.2 ⟨i, by show i < (q.ms.set i _).length; rw [List.length_set]; exact hi, List.getElem_set_self _⟩)
      rw [hm2]
      exact ⟨hp.keys, hp.mem, hp.tk, hp.tm⟩
    obtain ⟨q3, hq3⟩ : ∃ q3 : Lies, q3 = { q with ms := q.ms.set i m2 } := ⟨_, rfl⟩
    obtain ⟨x3, hx3⟩ : ∃ x3 : Acc, x3 = { x with clock := x.clock + 1, boxes := (numbers fr x.boxes).1, mails := x.mails.set i { m0.p with members := sortM mems, mod := x.clock + 1 } } := ⟨_, rfl⟩
    have t17 : Turned w11 wg g q x3 q3 := by
      rw [hq3]
      have h1 : x3 = { { plAcc x9 i m0.p base fr with mails := x9.mails.set i { m0.p with members := sortM mems } } with mails := (x9.mails.set i { m0.p with members := sortM mems }).set i m2.p } := by
        rw [hx3, List.set_set, hm2]
        unfold plAcc
        rw [HX9.out]
      rw [h1]
      exact t16
    have hTg := T9.out.trans t17
    have hsf : Sl wg 3 1 (.slice (some A5) n5 c5) h5 n5 (fr.map encI) := HS11.out.fresh HO5W.out H.out t17.chg
    have hsl : Sl wg 3 1 (.slice (some A7) n7 c7) h7 n7 (lf.map encI) := HS711.out.fresh HO7W.out H.out t17.chg
    have hdg : Blk wg D7 32 #[.slice (some A7) n7 c7] := HD11.out.fresh HD7N.out H.out t17.chg
    have hD : wg.cell? ⟨D7, 0, none⟩ = some (.slice (some A7) n7 c7) := hdg.cell 0
    have hn7f : n7 = lf.length := HN7.out
    have hn5f : n5 = fr.length := HN5.out
    have hn74 : n7 ≤ 4294967296 := hn7c
    have hn54 : n5 ≤ 4294967296 := hn5c
    have hcc : ∀ W B, Below wg.heap.size wg W → Blk W B 32 #[.slice (some A7) n7 c7, .slice (some A5) n5 c5] → Calls Tryz.prog 92 #[.slice (some ⟨B, 0, none⟩) 2 2] W fun e w' => ∃ v h, e = .returned v ∧ Sl w' 3 1 v h (lf ++ fr).length ((lf ++ fr).map encI) ∧ (∀ b, h = some b → W.heap.size ≤ b) ∧ Below W.heap.size W w' := fun W B hb hB => by
      have h1 := (hsl.keep (w' := W) (fun b2 hb2 => hb.block b2 (hsl.lt b2 hb2))).reads [] (by simp)
      have h2 := (hsf.keep (w' := W) (fun b2 hb2 => hb.block b2 (hsf.lt b2 hb2))).reads [] (by simp)
      rw [hn7f] at h1 hB
      rw [hn5f] at h2 hB
      exact concat2B A7 A5 c7 c5 lf fr W W B (Below.refl _ _) hB h1 h2 (by omega) (by omega)
    have hin3 : ∀ j ∈ lf ++ fr, j ∈ ids x3.boxes := fun j hj => by
      have h1 : ids x3.boxes = ids x.boxes := by rw [hx3]; exact numbers_ids _ _
      rw [h1]
      rcases List.mem_append.1 hj with h2 | h2
      · rw [← HLF0.out] at h2
        exact HF.out.memIn HMX.out j (List.mem_filter.1 h2).1
      · exact HIN.out j h2
    have hbl3 : x3.boxes.length ≤ 1099511627776 := by
      have h1 : x3.boxes.length = x.boxes.length := by rw [hx3]; exact numbers_len _ _
      rw [h1]
      exact hbn
    have hl3n : (lf ++ fr).length ≤ 1099511627776 := by rw [List.length_append]; omega
    have htu : ∀ W v h, Below wg.heap.size wg W → Sl W 3 1 v h (lf ++ fr).length ((lf ++ fr).map encI) → Calls Tryz.prog 59 #[.pointer (some ⟨g, 0, none⟩), .int .i64 (x.clock + 1), v] W fun e w' => ∃ v' hh, e = .returned v' ∧ Sl w' 117 4 v' hh (rise (lf ++ fr)).length (flatE (turnEnts (x.clock + 1) (rise (lf ++ fr)))) ∧ (∀ b, hh = some b → W.heap.size ≤ b) ∧ Turned W w' g q3 { x3 with boxes := turnBoxes (x.clock + 1) (rise (lf ++ fr)) x3.boxes } q3 := fun W v h hb hs =>
      turned_any W g q3 x3 (hTg.at_.later hb) hbl3 (x.clock + 1) (lf ++ fr) v [] (hs.reads [] (by simp)) hl3n hin3
    have hl3 : x3.log = x.log := by rw [hx3]
    have hlogm : 1 ≤ x3.log.most ∧ x3.log.most ≤ 1099511627776 ∧ x3.log.es.length ≤ 1099511627776 := by
      rw [hl3]
      have h1 := HF.out.log
      have h2 := HF.out.cfg.log
      rw [h1.1]
      omega
    have hne4 : (rise (lf ++ fr)).length ≤ 4294967296 := by
      have h1 := nodup_sub_length (rise (lf ++ fr)) (ids x3.boxes) (rise_nodup _) (fun j hj => hin3 j ((mem_rise _ _).1 hj))
      have h2 : (ids x3.boxes).length = x.boxes.length := by rw [hx3]; simp [ids, ← numbers_len fr x.boxes]
      have h3 := HF.out.nb
      omega
    have HTG := Lib.hid hTg
    have HTU := Lib.hid htu
    have HCCC := Lib.hid hcc
    have HLOG := Lib.hid hlogm
    have HX3 := Lib.hid hx3
    have HMM := Lib.hid (show placedA x id i m0.p fr lf = { x3 with boxes := turnBoxes (x.clock + 1) (rise (lf ++ fr)) x3.boxes, log := x3.log.add (turnEnts (x.clock + 1) (rise (lf ++ fr)) ++ [⟨x.clock + 1, 2, id, 2⟩]) } by
      rw [hx3, ← HMEMS.out, ← HBASE.out, HBX9.out]
      rfl)
    clear t16 t17 hTg hsf hsl hdg hcc hin3 hbl3 hl3n htu hl3 hlogm hx3 hq3 hm2 hwg c156 f156 hn7f hn5f
    go_cut [] (fun wx => ∃ q'', Hid (Turned w wx g q (placedA x id i m0.p fr lf) q''))
    case first =>
      refine place_tell wg g D7 q3 x3 { x3 with boxes := turnBoxes (x.clock + 1) (rise (lf ++ fr)) x3.boxes } (x.clock + 1) id (rise (lf ++ fr)).length (lf ++ fr).length n7 n5 c7 c5 A7 A5 ((lf ++ fr).map encI) (turnEnts (x.clock + 1) (rise (lf ++ fr))) _ _ _ _ _ _ _ _ _ _ _ _ _ _ _ _ _ _ _ _ _ _ _ _ _ _ _ _ _ _ _ _ _ _ _ _ _ _ _ _ _ _ _ _ _ _ _ _ _ _ _ _ _ _ _ _ _ _ _ _ _ _ _ _ _ _ _ _ _ _ _ _ _ _ _ _ _ _ _ _ _ _ _ _ _ _ _ _ _ _ _ _ _ _ _ _ _ _ _ _ _ _ _ _ _ _ _ _ _ _ _ _ _ _ _ _ _ _ _ _ _ _ _ _ _ _ _ _ HTG.out.at_ (turnEnts_length _ _) hne4 HLOG.out hD HCCC.out HTU.out ?_
      intro v113 v114 v115 v116 v117 v118 v119 v120 v121 v122 v123 v124 v125 v126 v127 v128 v129 wx q10 ht10
      have HT10 := Lib.hid (HTG.out.trans ht10)
      clear ht10
      go_wp2_with fail
      go_meet
      exact ⟨q10, Lib.hid (by rw [HMM.out]; exact HT10.out)⟩
    case rest =>
      obtain ⟨q'', HT11⟩ := hcut
      obtain ⟨wz, rfl⟩ : ∃ wz : World, wz = wc := ⟨_, rfl⟩
      go_wp2_with fail
      go_ret
      exact ⟨rfl, q'', HT11.out⟩
end Go.Proofs.YtmbibhphpjmboaaGreatDoor
