/-
  The walks of crit's on, header, uid, modseq, and of not over a key told.
-/
import Derived.Test.YtnfabgbidkddhaaGreatDoorCritAsk1M
namespace Go.Proofs.YtnfabgbidkddhaaGreatDoor
open Go.RowKit
attribute [local go_sem ↓] Go.wp_at_zero Go.wp_at_succ

section
variable {w0 w w' : World} {g ob mb : Nat} {uv : Value} {E : CEnv} {ws : List WT} {out : Out} {mod : Bool} {h : Hn}

theorem RAt.cells (s : RAt w0 w g ob mb uv E ws out mod h) : w.cell? ⟨g, 1, none⟩ = some (.int .i64 E.box) ∧ w.cell? ⟨g, 2, none⟩ = some uv ∧ w.cell? ⟨g, 3, none⟩ = some (.pointer (some ⟨ob, 0, none⟩)) ∧ w.cell? ⟨g, 4, none⟩ = some (.pointer (some ⟨mb, 0, none⟩)) := by
  obtain ⟨wv, hg, _⟩ := s.rd
  exact ⟨hg.cell 1, hg.cell 2, hg.cell 3, hg.cell 4⟩

theorem star_last (E : CEnv) (U : Nat) (hu : E.uids.length = U + 1) : (intC E.uids)[U]? = some (.int .i64 E.star) ∧ E.star ∈ E.uids := by
  obtain ⟨bx, l⟩ := E
  simp only at hu
  rcases List.eq_nil_or_concat l with rfl | ⟨l', z, rfl⟩
  · cases hu
  · simp only [List.concat_eq_append, List.length_append, List.length_cons, List.length_nil] at hu
    have hU : U = l'.length := by omega
    subst hU
    simp [intC, CEnv.star]

set_option maxRecDepth 100000 in
set_option maxHeartbeats 2000000 in
theorem modseq_anyK (s : RAt w0 w g ob mb uv E ws out mod h) (hn : out.length ≤ 1000000000000) :
    Calls Tryz.prog 72 #[.pointer (some ⟨g, 0, none⟩)] w (AOut w0 w g ob mb uv E ws out mod h .modseq) := by
  have hw := num_anyC s
  clear s
  go_enter Tryz.func72, Tryz.ntmps72
  go_wp2_with (first
    | (go_at_call 109; refine hw.mono ?_; rintro e w2 ⟨n, ok, ws', rfl, hks, hwp, hn1, hn2, hle⟩; have hc := hks.at_.cells.2.2.2; have hfr : w2.frozen? ⟨mb, 0, none⟩ = false := hks.at_.mo.frozen 0; have hmc : w2.cell? ⟨mb, 0, none⟩ = some (.bool mod) := hks.at_.mo.cell 0; have HK := Lib.hid hks; have HW := Lib.hid hwp; have HL := Lib.hid hle; clear hks hwp hle hw)
    | (go_at_call 45; refine (put_anyC (HK.out.trans HK.out.at_.flag).at_ (tmN 15 n) (.slice none 0 0) (.slice none 0 0) (TmOk.none _ _ _ rfl rfl) (by omega)).mono ?_; rintro e w3 ⟨h3, rfl, hk3⟩; have HK3 := Lib.hid ((HK.out.trans HK.out.at_.flag).trans hk3); clear hk3)
    | fail)
  go_ret2
  have h1 := HW.out
  have h2 := HL.out
  refine ⟨_, ok, _, _, _, _, rfl, HK3.out, ?_, ?_, ?_⟩
  · cases ok
    · simp only [Bool.false_eq_true, if_false] at h1
      simp [stepA, h1]
    · simp only [if_true] at h1
      simp [stepA, h1, putP]
  · simp only [List.length_append, List.length_cons, List.length_nil, Ask.cost]
    split at h2 <;> omega
  · split at h2 <;> simp_all <;> omega

set_option maxRecDepth 100000 in
set_option maxHeartbeats 2000000 in
theorem header_anyK (s : RAt w0 w g ob mb uv E ws out mod h) (hn : out.length ≤ 1000000000000) :
    Calls Tryz.prog 70 #[.pointer (some ⟨g, 0, none⟩)] w (AOut w0 w g ob mb uv E ws out mod h .header) := by
  have hw := word_anyC s
  clear s
  go_enter Tryz.func70, Tryz.ntmps70
  go_wp2_with (first
    | (go_at_call 105; refine hw.mono ?_; rintro e w2 ⟨t, ok, ws', rfl, hks, hwp, hsz, hle⟩; have HK := Lib.hid hks; have HW := Lib.hid hwp; have HL := Lib.hid hle; clear hks hwp hle hw)
    | (go_at_call 105; refine (word_anyC HK.out.at_).mono ?_; rintro e w4 ⟨t2, ok2, ws2, rfl, hks2, hwp2, hsz2, hle2⟩; have HK2 := Lib.hid (HK.out.trans hks2); have HW2 := Lib.hid hwp2; have HL2 := Lib.hid hle2; clear hks2 hwp2 hle2 HK; cases ok)
    | (go_at_call 45; refine (put_anyC HK2.out.at_ (tmT 12 t t2) (.slice none 0 0) (.slice none 0 0) (TmOk.none _ _ _ rfl rfl) (by omega)).mono ?_; rintro e w3 ⟨h3, rfl, hk3⟩; have HK3 := Lib.hid (HK2.out.trans hk3); clear hk3)
    | fail)
  · go_ret2
    have h1 := HW.out
    have h2 := HL.out
    have h4 := HL2.out
    simp only [Bool.false_eq_true, if_false] at h1 h2
    refine ⟨_, false, _, _, _, _, rfl, HK3.out, ?_, ?_, ?_⟩
    · simp [stepA, h1]
    · simp only [List.length_append, List.length_cons, List.length_nil, Ask.cost]
      split at h4 <;> omega
    · simp
      split at h4 <;> omega
  · go_ret2
    have h1 := HW.out
    have h2 := HL.out
    have h3 := HW2.out
    have h4 := HL2.out
    simp only [if_true] at h1 h2
    refine ⟨_, ok2, _, _, _, _, rfl, HK3.out, ?_, ?_, ?_⟩
    · cases ok2
      · simp only [Bool.false_eq_true, if_false] at h3
        simp [stepA, h1, h3]
      · simp only [if_true] at h3
        simp [stepA, h1, h3, putP]
    · simp only [List.length_append, List.length_cons, List.length_nil, Ask.cost]
      split at h4 <;> omega
    · split at h4 <;> simp_all <;> omega

set_option maxRecDepth 100000 in
set_option maxHeartbeats 2000000 in
theorem on_anyK (s : RAt w0 w g ob mb uv E ws out mod h) (he : EAt w0 uv E) (hn : out.length ≤ 1000000000000) :
    Calls Tryz.prog 69 #[.pointer (some ⟨g, 0, none⟩)] w (AOut w0 w g ob mb uv E ws out mod h .on) := by
  have hw := day_anyC s he
  clear s
  go_enter Tryz.func69, Tryz.ntmps69
  go_wp2_with (first
    | (go_at_call 108; refine hw.mono ?_; rintro e w2 ⟨n, ok, ws', rfl, hks, hwp, hn1, hn2, hle⟩; have HK := Lib.hid hks; have HW := Lib.hid hwp; have HL := Lib.hid hle; clear hks hwp hle hw)
    | (go_at_call 45; refine (put_anyC HK.out.at_ (tmN 8 n) (.slice none 0 0) (.slice none 0 0) (TmOk.none _ _ _ rfl rfl) (by omega)).mono ?_; rintro e w3 ⟨h3, rfl, hk3⟩; have HK3 := Lib.hid (HK.out.trans hk3); clear hk3 HK)
    | (go_at_call 45; refine (put_anyC HK3.out.at_ (tmN 7 (n + 86400)) (.slice none 0 0) (.slice none 0 0) (TmOk.none _ _ _ rfl rfl) (by simp; omega)).mono ?_; rintro e w4 ⟨h4, rfl, hk4⟩; have HK4 := Lib.hid (HK3.out.trans hk4); clear hk4 HK3)
    | (go_at_call 27; refine (over_anyC (HK4.out.below ((Below.refl _ _).alloc (Nat.le_refl _) _)) 1 [(out.length : Int), (out.length : Int) + 1] _ _ (Sl.lit _ _ [.int .i64 (out.length : Int), .int .i64 ((out.length : Int) + 1)] 2 rfl (by decide)) (by rintro b ⟨rfl⟩; exact HK4.out.chg.size) (by simp; omega)).mono ?_; rintro e w5 ⟨h5, rfl, hk5⟩; have HK5 := Lib.hid hk5; clear hk5)
    | fail)
  go_ret2
  have h1 := HW.out
  have h2 := HL.out
  refine ⟨_, ok, _, _, _, _, rfl, HK5.out, ?_, ?_, ?_⟩
  · cases ok
    · simp only [Bool.false_eq_true, if_false] at h1
      simp [stepA, h1]
    · simp only [if_true] at h1
      simp [stepA, h1]
  · simp only [List.length_append, List.length_cons, List.length_nil, Ask.cost]
    split at h2 <;> omega
  · split at h2 <;> simp_all <;> omega

set_option maxRecDepth 100000 in
set_option maxHeartbeats 2000000 in
theorem uid_anyK (s : RAt w0 w g ob mb uv E ws out mod h) (he : EAt w0 uv E) (hn : out.length ≤ 1000000000000) :
    Calls Tryz.prog 71 #[.pointer (some ⟨g, 0, none⟩)] w (AOut w0 w g ob mb uv E ws out mod h .uid) := by
  have hw := word_anyC s
  have HM := Lib.hid he.mx
  obtain ⟨A, c, huv, _, hcm⟩ := he.uids.form
  cases hu : E.uids.length with
  | zero =>
    rw [hu] at huv
    subst huv
    have hst : E.star = (0 : Int) := by
      have : E.uids = [] := List.eq_nil_of_length_eq_zero hu
      simp [CEnv.star, this]
    have HST := Lib.hid hst
    clear hst s he hu
    go_enter Tryz.func71, Tryz.ntmps71
    go_wp2_with (first
      | (go_at_call 105; refine hw.mono ?_; rintro e w2 ⟨t, ok, ws', rfl, hks, hwp, hsz, hle⟩; have hc1 := hks.at_.cells.1; have hc2 := hks.at_.cells.2.1; have HK := Lib.hid hks; have HW := Lib.hid hwp; have HL := Lib.hid hle; clear hks hwp hle hw)
      | (go_at_call 63; refine (read_any _ _ _ (by omega) (by omega) (HM.out.below HK.out.at_.bel)).mono ?_; rintro e w4 ⟨v4, h4, rfl, hs4, hb4⟩; obtain ⟨A4, c4, rfl, _, _⟩ := hs4.form; have hcb : w4.cell? ⟨g, 1, none⟩ = some (.int .i64 E.box) := (HK.out.below hb4).at_.cells.1; have HK4 := Lib.hid (HK.out.below hb4); have HS4 := Lib.hid hs4; clear hb4 hs4; obtain ⟨rr, hrr⟩ : ∃ rr, rr = readL t.data.toList 0 := ⟨_, rfl⟩; rw [← hrr] at HS4 ⊢; have HRR := Lib.hid hrr; clear hrr; obtain ⟨rl, re⟩ := rr; simp only at HS4 ⊢; cases ok)
      | (go_at_call 45; refine (put_anyC HK4.out.at_ (tmS E.box rl) _ (.slice none 0 0) ⟨⟨_, HS4.out⟩, ⟨none, Sl.nil _ _ _, by simp⟩⟩ (by omega)).mono ?_; rintro e w3 ⟨h3, rfl, hk3⟩; have HK3 := Lib.hid (HK4.out.trans hk3); clear hk3)
      | fail)
    · go_ret2
      have h1 := HW.out
      have h2 := HL.out
      simp only [Bool.false_eq_true, if_false] at h1 h2
      refine ⟨_, false, _, _, _, _, rfl, HK3.out, ?_, ?_, ?_⟩
      · simp [stepA, h1]
      · simp only [List.length_append, List.length_cons, List.length_nil, Ask.cost]
        omega
      · simp
        omega
    · go_ret2
      have h1 := HW.out
      have h2 := HL.out
      have h3 := HRR.out
      simp only [if_true] at h1 h2
      refine ⟨_, (re == 0), _, _, _, _, rfl, HK3.out, ?_, ?_, ?_⟩
      · simp [stepA, h1, HST.out, ← h3, putP]
      · simp only [List.length_append, List.length_cons, List.length_nil, Ask.cost]
        omega
      · split <;> omega
  | succ U =>
    have hU0 : 0 < E.uids.length := by omega
    obtain ⟨b, off, cap, hv, _, _, hbl, _, hat⟩ := he.uids.at_ hU0
    have hlast := hat U (by omega)
    obtain ⟨hg, hmem⟩ := star_last E U hu
    have hst : E.star = E.star := rfl
    have hrng := he.nums E.star hmem
    obtain ⟨hrng1, hrng2⟩ := hrng
    rw [hg] at hlast
    rw [hv, hu] at huv
    injection huv with huv1 huv2 huv3
    subst huv1 huv3
    rw [hu] at hv
    subst hv
    have hUb : U ≤ 199 := by have := he.few; omega
    have HLAST := Lib.hid hlast
    obtain ⟨st, hste⟩ : ∃ st, E.star = st := ⟨_, rfl⟩
    rw [hste] at HLAST hrng1 hrng2
    have HST := Lib.hid hste
    clear hst hste s he hg hmem hat hlast hU0 huv2 hu
    go_enter Tryz.func71, Tryz.ntmps71
    go_wp2_with (first
      | (go_at_call 105; refine hw.mono ?_; rintro e w2 ⟨t, ok, ws', rfl, hks, hwp, hsz, hle⟩; have hc1 := hks.at_.cells.1; have hc2 := hks.at_.cells.2.1; have hcl : w2.cell? ⟨b, off + U, none⟩ = some (.int .i64 st) := (hks.at_.bel.cell (p := ⟨b, off + U, none⟩) hbl).trans HLAST.out; have HK := Lib.hid hks; have HW := Lib.hid hwp; have HL := Lib.hid hle; clear hks hwp hle hw)
      | (go_at_call 63; refine (read_any _ _ _ (by omega) (by omega) (HM.out.below HK.out.at_.bel)).mono ?_; rintro e w4 ⟨v4, h4, rfl, hs4, hb4⟩; obtain ⟨A4, c4, rfl, _, _⟩ := hs4.form; have hcb : w4.cell? ⟨g, 1, none⟩ = some (.int .i64 E.box) := (HK.out.below hb4).at_.cells.1; have HK4 := Lib.hid (HK.out.below hb4); have HS4 := Lib.hid hs4; clear hb4 hs4; obtain ⟨rr, hrr⟩ : ∃ rr, rr = readL t.data.toList st := ⟨_, rfl⟩; rw [← hrr] at HS4 ⊢; have HRR := Lib.hid hrr; clear hrr; obtain ⟨rl, re⟩ := rr; simp only at HS4 ⊢; cases ok)
      | (go_at_call 45; refine (put_anyC HK4.out.at_ (tmS E.box rl) _ (.slice none 0 0) ⟨⟨_, HS4.out⟩, ⟨none, Sl.nil _ _ _, by simp⟩⟩ (by omega)).mono ?_; rintro e w3 ⟨h3, rfl, hk3⟩; have HK3 := Lib.hid (HK4.out.trans hk3); clear hk3)
      | fail)
    · go_ret2
      have h1 := HW.out
      have h2 := HL.out
      simp only [Bool.false_eq_true, if_false] at h1 h2
      refine ⟨_, false, _, _, _, _, rfl, HK3.out, ?_, ?_, ?_⟩
      · simp [stepA, h1]
      · simp only [List.length_append, List.length_cons, List.length_nil, Ask.cost]
        omega
      · simp
        omega
    · go_ret2
      have h1 := HW.out
      have h2 := HL.out
      have h3 := HRR.out
      simp only [if_true] at h1 h2
      refine ⟨_, (re == 0), _, _, _, _, rfl, HK3.out, ?_, ?_, ?_⟩
      · simp [stepA, h1, HST.out, ← h3, putP]
      · simp only [List.length_append, List.length_cons, List.length_nil, Ask.cost]
        omega
      · split <;> omega

end

end Go.Proofs.YtnfabgbidkddhaaGreatDoor
