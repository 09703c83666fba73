/-
  The walk of the laws' Same: an account of the program's and one of the reference's that hold the same.
-/
import Derived.Test.YtmbibhphpjmboaaGreatDoorGZ
import Derived.Test.YtmbibhphpjmboaaGreatDoorSameMM
import Derived.Test.YtmbibhphpjmboaaGreatDoorGQ
import Derived.Test.YtmbibhphpjmboaaGreatDoorGC
import Derived.Test.YtmbibhphpjmboaaGreatDoorLogsW0M
import Derived.Test.YtmbibhphpjmboaaGreatDoorGD
import Derived.Deep.RegionHeld3
namespace Go.Proofs.YtmbibhphpjmboaaGreatDoor
open Go.Shelf Go.RowKit
attribute [local go_sem ↓] Go.wp_at_zero Go.wp_at_succ

theorem RStoreAt.mailsAt {w : World} {g : Nat} {q : Lies} {x : Acc} (h : RStoreAt w g q x) : MailsAt w [] q.vm x.mails := by
  refine ⟨q.ms, h.same, ?_, fun m hm => ?_⟩
  · have h1 := h.mails.reads [] (by simp)
    have h2 : q.ms.length = x.mails.length := by rw [← h.same]; simp
    rw [h2]
    exact h1
  · have hp := h.parts m hm
    exact ⟨hp.keys.sub (fun _ _ _ hm => by cases hm), hp.mem.sub (fun _ _ _ hm => by cases hm), hp.tk, hp.tm⟩
theorem MailsAt.weak {w : World} {S : List Nat} {v : Value} {l : List MailP} (h : MailsAt w S v l) : MailsAt w [] v l :=
  h.keep (Nat.le_refl _) (fun _ _ _ => rfl) (fun _ _ _ hm => by cases hm)

set_option maxRecDepth 100000 in
set_option maxHeartbeats 8000000 in
theorem same_any (w : World) (g : Nat) (q : Lies) (g2 : Nat) (q2 : Lies) (x : Acc) (h : StoreAt w g q x) (h2 : RStoreAt w g2 q2 x) (hf : Fit x) :
    Calls Tryz.prog 22 #[.pointer (some ⟨g, 0, none⟩), .pointer (some ⟨g2, 0, none⟩)] w fun e w' => e = .returned (.bool true) ∧ Below w.heap.size w w' := by
  have hnb : x.boxes.length ≤ 1099511627776 := by
    have := hf.nb
    have := hf.clock
    have := hf.cfg.mod
    omega
  have hsm : SmallM x := by
    have h1 := hf.nm
    have h2 := hf.clock
    have h3 := hf.cfg.mod
    exact ⟨by omega, fun m hm => ⟨by have := (hf.mail m hm).keys; omega, by have := hf.nmem hm; omega⟩⟩
  have hle : x.log.es.length ≤ 1099511627776 := by
    have h1 := hf.log
    have h2 := hf.cfg.log
    omega
  have hlog := storeLog_any w g q x h (by omega)
  obtain ⟨Ab, cb, hvb, _, _⟩ := h2.boxes.form
  obtain ⟨Am, cm, hvm, _, _⟩ := h2.mails.form
  obtain ⟨lv, hlB, hlS⟩ := h2.log
  obtain ⟨Al, cl, hvl, _, _⟩ := hlS.form
  subst hvl
  have k9 := h2.cell9
  have k10 := h2.cell10
  have k11 := h2.cell11
  have k12 := h2.cell12
  have k1 : w.cell? ⟨q2.gl, 1, none⟩ = some (.slice Al x.log.es.length cl) := hlB.cell 1
  have k2 : w.cell? ⟨q2.gl, 2, none⟩ = some (.int .i64 x.log.floor) := hlB.cell 2
  rw [hvb] at k10
  rw [hvm] at k11
  have hK : ∀ W, Below w.heap.size w W → W.cell? ⟨g2, 9, none⟩ = some (.int .i64 x.clock) ∧ W.cell? ⟨g2, 10, none⟩ = some (.slice Ab x.boxes.length cb) ∧ W.cell? ⟨g2, 11, none⟩ = some (.slice Am x.mails.length cm) ∧ W.cell? ⟨g2, 12, none⟩ = some (.pointer (some ⟨q2.gl, 0, none⟩)) ∧ W.cell? ⟨q2.gl, 1, none⟩ = some (.slice Al x.log.es.length cl) ∧ W.cell? ⟨q2.gl, 2, none⟩ = some (.int .i64 x.log.floor) := fun W hb =>
    ⟨(hb.cell h2.blk.lt).trans k9, (hb.cell h2.blk.lt).trans k10, (hb.cell h2.blk.lt).trans k11, (hb.cell h2.blk.lt).trans k12, (hb.cell hlB.lt).trans k1, (hb.cell hlB.lt).trans k2⟩
  have hC := fun W (hb : Below w.heap.size w W) => clock_any g x.clock W (h.later hb).cell9
  have hBX := fun W (hb : Below w.heap.size w W) => boxes_any W g q x (h.later hb) hnb
  have hRB : ∀ W v hh, Below w.heap.size w W → Sl W 52 6 v hh x.boxes.length (flatG encB x.boxes) → Calls Tryz.prog 32 #[v, .slice Ab x.boxes.length cb] W fun e w' => e = .returned (.bool true) ∧ Below W.heap.size W w' := fun W v hh hb hs => by
    have h1 := ((h2.later hb).boxes).reads [] (by simp)
    rw [hvb] at h1
    exact sameB_any v _ [] [] x.boxes W (hs.reads [] (by simp)) h1 hnb
  have hM := fun W (hb : Below w.heap.size w W) => mails_any W g q x (h.later hb) hsm
  have hRM : ∀ W v S, Below w.heap.size w W → MailsAt W S v x.mails → Calls Tryz.prog 36 #[v, .slice Am x.mails.length cm] W fun e w' => e = .returned (.bool true) ∧ Below W.heap.size W w' := fun W v S hb hs => by
    have h1 := (h2.later hb).mailsAt
    rw [hvm] at h1
    exact sameM_any v _ S [] x.mails W hs h1 hsm.1 hsm.2
  have hE : ∀ W v hh, Below w.heap.size w W → Sl W 117 4 v hh x.log.es.length (flatE x.log.es) → Calls Tryz.prog 62 #[v, .slice Al x.log.es.length cl] W fun e w' => e = .returned (.bool true) ∧ Below W.heap.size W w' := fun W v hh hb hs => by
    have h1 := entries_any W v _ x.log.es x.log.es (hs.reads [] (by simp)) ((hlS.keep (fun b h => hb.block b (hlS.lt b h))).reads [] (by simp))
    rw [decide_eq_true rfl] at h1
    exact h1
  have HK := Lib.hid hK
  have HC := Lib.hid hC
  have HBX := Lib.hid hBX
  have HRB := Lib.hid hRB
  have HM := Lib.hid hM
  have HRM := Lib.hid hRM
  have HE := Lib.hid hE
  clear hK hC hBX hRB hM hRM hE k9 k10 k11 k12 k1 k2 hlB hlS hvb hvm h h2 hf hnb hsm
  obtain ⟨nb, hnb⟩ : ∃ nb, x.boxes.length = nb := ⟨_, rfl⟩
  obtain ⟨nm, hnm⟩ : ∃ nm, x.mails.length = nm := ⟨_, rfl⟩
  obtain ⟨ne, hne⟩ : ∃ ne, x.log.es.length = ne := ⟨_, rfl⟩
  obtain ⟨ck, hck⟩ : ∃ ck, x.clock = ck := ⟨_, rfl⟩
  obtain ⟨fl, hfl⟩ : ∃ fl, x.log.floor = fl := ⟨_, rfl⟩
  rw [hnb, hnm, hne, hck, hfl] at HK
  rw [hck] at HC
  rw [hnb] at HBX HRB
  rw [hnm] at HM HRM
  rw [hne] at HE
  have HNE := Lib.hid hne
  have HFL := Lib.hid hfl
  have HLE := Lib.hid hle
  clear hnb hnm hne hck hfl hle
  go_enter Tryz.func22, Tryz.ntmps22
  go_upto_region 2 with (first
    | (go_at_call 40; refine hlog.mono ?_; rintro e w1 ⟨g5, h5, rfl, hl5, hb5, _, _⟩; have hAL := fun W (hb : Below w1.heap.size w1 W) => all_any W g5 h5 x.log (hl5.chg (Chg.of_below hb []) (by simp) (by simp)) (by have := HLE.out; omega); have hFL := fun W (hb : Below w1.heap.size w1 W) => floor_any W g5 h5 x.log (hl5.chg (Chg.of_below hb []) (by simp) (by simp)); rw [HNE.out] at hAL; rw [HFL.out] at hFL; have HAL := Lib.hid hAL; have HFLO := Lib.hid hFL; have HB1 := Lib.hid hb5; clear hlog hl5 hb5 hAL hFL)
    | fail)
  have hk0 := HK.out w1 HB1.out
  obtain ⟨k9, k10, k11, k12, k1, k2⟩ := hk0
  go_region_held3 (fun W => W.cell? ⟨g2, 9, none⟩ = some (.int .i64 ck) ∧ W.cell? ⟨g2, 10, none⟩ = some (.slice Ab nb cb) ∧ W.cell? ⟨g2, 11, none⟩ = some (.slice Am nm cm) ∧ W.cell? ⟨g2, 12, none⟩ = some (.pointer (some ⟨q2.gl, 0, none⟩)) ∧ W.cell? ⟨q2.gl, 1, none⟩ = some (.slice Al ne cl) ∧ W.cell? ⟨q2.gl, 2, none⟩ = some (.int .i64 fl))
    (first
      | exact HK.out _ (below_then HB1.out HB11.out)
      | exact HK.out _ (below_then HB1.out HB10.out)
      | exact HK.out _ (below_then HB1.out HB9.out)
      | exact HK.out _ (below_then HB1.out HB8.out)
      | exact HK.out _ (below_then HB1.out HB7.out)
      | exact HK.out _ (below_then HB1.out HB6.out)
      | exact HK.out _ HB1.out
      | exact HK.out _ (below_then HB1.out (below_drew1 _))
      | go_keep)
    (first
      | (go_at_call 26; refine (HC.out _ (by first | exact HB1.out | exact below_then HB1.out (below_drew1 _))).mono ?_; rintro e wA ⟨rfl, rfl⟩)
      | (go_at_call 25; refine (HBX.out _ (by first | exact HB1.out | exact below_then HB1.out (below_drew1 _))).mono ?_; rintro e w6 ⟨v6, h6, rfl, hs6, _, hb6⟩; obtain ⟨A6, c6, rfl, _, _⟩ := hs6.form; have HS6 := Lib.hid hs6; have HB6 : Hid (Below w1.heap.size w1 w6) := Lib.hid (by first | exact hb6 | exact below_then (below_drew1 w1) hb6); clear hs6 hb6)
      | (go_at_call 32; refine (HRB.out _ _ _ (below_then HB1.out HB6.out) HS6.out).mono ?_; rintro e w7 ⟨rfl, hb7⟩; have HB7 := Lib.hid (below_then HB6.out hb7); clear hb7)
      | (go_at_call 20; refine (HM.out _ (below_then HB1.out HB7.out)).mono ?_; rintro e w8 ⟨A8, c8, rfl, hma, hb8⟩; have HMA := Lib.hid hma; have HB8 := Lib.hid (below_then HB7.out hb8); clear hb8 hma)
      | (go_at_call 36; refine (HRM.out _ _ _ (below_then HB1.out HB8.out) HMA.out).mono ?_; rintro e w9 ⟨rfl, hb9⟩; have HB9 := Lib.hid (below_then HB8.out hb9); clear hb9)
      | (go_at_call 45; refine (HAL.out _ HB9.out).mono ?_; rintro e w10 ⟨v10, h10, rfl, hs10, hb10, _⟩; obtain ⟨A10, c10, rfl, _, _⟩ := hs10.form; have HS10 := Lib.hid hs10; have HB10 := Lib.hid (below_then HB9.out hb10); clear hb10 hs10)
      | (go_at_call 62; refine (HE.out _ _ _ (below_then HB1.out HB10.out) HS10.out).mono ?_; rintro e w11 ⟨rfl, hb11⟩; have HB11 := Lib.hid (below_then HB10.out hb11); clear hb11)
      | (go_at_call 46; refine (HFLO.out _ HB11.out).mono ?_; rintro e w12 ⟨rfl, rfl⟩)
      | fail)
  all_goals
    go_wp2_with fail
    go_ret
    exact ⟨rfl, below_then HB1.out HB11.out⟩

end Go.Proofs.YtmbibhphpjmboaaGreatDoor
