/-
  The walks of the reference's search: uidset, places.
-/
import Derived.Test.YtnfabgbidkddhaaGreatDoorSrchXM
import Derived.Test.YtnfabgbidkddhaaGreatDoorCritPlacesM
namespace Go.Proofs.YtnfabgbidkddhaaGreatDoor
open Go.RowKit
attribute [local go_sem ↓] Go.wp_at_zero Go.wp_at_succ

theorem keepR_id (l : List Rg) (h : ∀ x ∈ l, 1 ≤ x.1 ∧ x.1 ≤ x.2) : keepR l = l := by
  unfold keepR
  have h1 : l.map clipR = l := by
    conv => rhs; rw [← List.map_id l]
    refine List.map_congr_left fun x hx => ?_
    have := h x hx
    unfold clipR
    rw [if_neg (by omega)]
    rfl
  rw [h1, List.filter_eq_self]
  intro x hx
  have := h x hx
  simpa using this.2
theorem places_pt (S : List Rg) : ∀ (us : List Int) (i : Nat), ∀ x ∈ placesGo S i us, x.1 = x.2 ∧ 0 < x.1
  | [], _ => by simp [placesGo]
  | u :: us, i => by
    intro x hx
    unfold placesGo at hx
    split at hx
    · rename_i hu
      rcases List.mem_cons.1 hx with rfl | hx
      · exact ⟨rfl, hu.2⟩
      · exact places_pt S us (i + 1) x hx
    · exact places_pt S us (i + 1) x hx
theorem merge_places (S : List Rg) (us : List Int) : rGo (placesGo S 0 us) = mergeR (placesGo S 0 us) := by
  rw [← merge_keep, keepR_id _ fun x hx => by
    have := places_pt S us 0 x hx
    omega]

section
variable {w0 w w' wS : World} {g : Nat} {uv : Value} {E : CEnv} {ws : List WT} {out out' : Out} {mod bad : Bool} {h h0 : Hn}

set_option maxRecDepth 100000 in
set_option maxHeartbeats 4000000 in
theorem uidset_anyS (k0 : SSt w0 wS w g uv E h0 ws out mod bad h) (he : EAt w0 uv E) (t : ByteArray) (ht : t.size ≤ 1100) (hn : out.length ≤ 1000000000000) :
    Calls Tryz.prog 88 #[.pointer (some ⟨g, 0, none⟩), .string t] w fun e w' => ∃ h', e = .returned (.int .i64 (out.length : Nat)) ∧ SSt w0 wS w' g uv E h0 ws (out ++ [tmS E.box (readL t.data.toList E.star).1]) mod (bad || !((readL t.data.toList E.star).2 == 0)) h' := by
  obtain ⟨_, _, _, _, _, _, _, _, _, e4, _, _, _, _⟩ := k0.at_.cells
  obtain ⟨A, c, huv, _, hcm⟩ := he.uids.form
  have HK0 := Lib.hid k0
  cases hu : E.uids.length with
  | zero =>
    rw [hu] at huv
    subst huv
    have hst : E.star = (0 : Int) := by
      have : E.uids = [] := List.eq_nil_of_length_eq_zero hu
      simp [CEnv.star, this]
    rw [hst]
    have hrd := refRead_any t 0 w (by omega) (by omega)
    rw [← readL_eq] at hrd
    obtain ⟨rr, hrr⟩ : ∃ rr, readL t.data.toList 0 = rr := ⟨_, rfl⟩
    rw [hrr] at hrd ⊢
    obtain ⟨rl, re⟩ := rr
    simp only at hrd ⊢
    obtain ⟨ok, hok⟩ : ∃ ok, (re == 0) = ok := ⟨_, rfl⟩
    rw [hok]
    have hne : (re != 0) = !ok := by rw [← hok]; rfl
    clear hst he hu hrr k0 hok hcm
    cases bad <;> cases ok <;> simp only [Bool.not_true, Bool.not_false, Bool.or_true, Bool.or_false] at hne ⊢
    all_goals
      go_enter Tryz.func88, Tryz.ntmps88
      go_wp2_with (first
        | (go_at_call 80; refine hrd.mono ?_; rintro e w4 ⟨v4, h4, rfl, hs4, hb4⟩; obtain ⟨A4, c4, rfl, _, _⟩ := hs4.form; have hk4 := HK0.out.below hb4; obtain ⟨_, _, _, _, _, _, _, _, e3, _, _, e6, ef, hgl⟩ := hk4.at_.cells; have f6 := ef 6 (by omega); have HK4 := Lib.hid hk4; have HS4 := Lib.hid hs4; clear hb4 hs4 hrd ef hk4)
        | (go_at_call 29; refine (add_anyS (HK4.out.trans (HK4.out.at_.setBad _)) (tmS E.box rl) _ (.slice none 0 0) none ⟨h4, ?_⟩ (Sl.nil _ _ _) (by simp) (by omega)).mono ?_; exact HS4.out.far (p := ⟨g, 6, none⟩) (fun e => by obtain ⟨_, _, _, _, hgB, _⟩ := HK4.out.at_.rd; exact HS4.out.ne_blk hgB (by decide) g e rfl) _; rintro e w3 ⟨h3, rfl, hk3⟩; have HK3 := Lib.hid hk3; clear hk3)
        | fail)
      go_ret
      exact ⟨_, rfl, HK3.out⟩
  | succ U =>
    have hU0 : 0 < E.uids.length := by omega
    obtain ⟨b, off, cap, hv, _, _, hbl, _, hat⟩ := he.uids.at_ hU0
    have hlast := hat U (by omega)
    obtain ⟨hg, hmem⟩ := star_last E U hu
    have hrng := he.nums E.star hmem
    obtain ⟨hrng1, hrng2⟩ := hrng
    rw [hg] at hlast
    rw [hv, hu] at huv
    injection huv with huv1 huv2 huv3
    subst huv1 huv3
    rw [hu] at hv
    subst hv
    have hUb : U ≤ 199 := by have := he.few; omega
    have hcl : w.cell? ⟨b, off + U, none⟩ = some (.int .i64 E.star) := (k0.at_.bel.cell (p := ⟨b, off + U, none⟩) hbl).trans hlast
    obtain ⟨st, hste⟩ : ∃ st, E.star = st := ⟨_, rfl⟩
    rw [hste] at hcl hrng1 hrng2 ⊢
    have hrd := fun q => refRead_any t st (w.drewN q) (by omega) (by omega)
    simp only [← readL_eq] at hrd
    obtain ⟨rr, hrr⟩ : ∃ rr, readL t.data.toList st = rr := ⟨_, rfl⟩
    simp only [hrr] at hrd ⊢
    obtain ⟨rl, re⟩ := rr
    simp only at hrd ⊢
    obtain ⟨ok, hok⟩ : ∃ ok, (re == 0) = ok := ⟨_, rfl⟩
    rw [hok]
    have hne : (re != 0) = !ok := by rw [← hok]; rfl
    have c1 : decide (0 < U + 1) = true := by simp
    have w1 : wrap64 (((U : Int) + 1) - 1) = (U : Int) := by unfold wrap64; omega
    have w2 : ((U : Int) + 1) - 1 = (U : Int) := by omega
    have i0 : (0 : Int) ≤ (U : Int) := by omega
    have i1 : (U : Int) < ((U + 1 : Nat) : Int) := by omega
    have HKD := Lib.hid fun q => HK0.out.drewN q
    clear he hste hu hrr k0 hok hcm hg hmem hat hlast hU0 huv2
    cases bad <;> cases ok <;> simp only [Bool.not_true, Bool.not_false, Bool.or_true, Bool.or_false] at hne ⊢
    all_goals
      go_enter Tryz.func88, Tryz.ntmps88
      go_upto_region 3 with (fail)
      go_quiet (fail)
      go_wp2_with (first
        | (go_at_call 80; refine (hrd _).mono ?_; rintro e w4 ⟨v4, h4, rfl, hs4, hb4⟩; obtain ⟨A4, c4, rfl, _, _⟩ := hs4.form; have hk4 := (HKD.out _).below hb4; obtain ⟨_, _, _, _, _, _, _, _, e3, _, _, e6, ef, hgl⟩ := hk4.at_.cells; have f6 := ef 6 (by omega); have HK4 := Lib.hid hk4; have HS4 := Lib.hid hs4; clear hb4 hs4 hrd ef hk4)
        | (go_at_call 29; refine (add_anyS (HK4.out.trans (HK4.out.at_.setBad _)) (tmS E.box rl) _ (.slice none 0 0) none ⟨h4, ?_⟩ (Sl.nil _ _ _) (by simp) (by omega)).mono ?_; exact HS4.out.far (p := ⟨g, 6, none⟩) (fun e => by obtain ⟨_, _, _, _, hgB, _⟩ := HK4.out.at_.rd; exact HS4.out.ne_blk hgB (by decide) g e rfl) _; rintro e w3 ⟨h3, rfl, hk3⟩; have HK3 := Lib.hid hk3; clear hk3)
        | fail)
      go_ret
      exact ⟨_, rfl, HK3.out⟩


/-- In the search's memory: what an element's place reads as. -/
theorem SAt.uids (s : SAt w0 w g uv E ws out mod bad h) : w.cell? ⟨g, 4, none⟩ = some uv ∧ w.cell? ⟨g, 3, none⟩ = some (.int .i64 E.box) := by
  obtain ⟨_, _, _, _, _, _, _, _, e3, e4, _⟩ := s.cells
  exact ⟨e4, e3⟩

set_option maxRecDepth 100000 in
set_option maxHeartbeats 8000000 in
theorem places_anyS (k0 : SSt w0 wS w g uv E h0 ws out mod false h) (he : EAt w0 uv E) (t : ByteArray) (ht : t.size ≤ 1100) (hn : out.length ≤ 1000000000000) :
    Calls Tryz.prog 48 #[.pointer (some ⟨g, 0, none⟩), .string t] w (SOut w0 wS g uv E h0 (out.length + 3 * szL ws + 1) (szL ws + 1) (placeP E t ws out mod)) := by
  obtain ⟨i0, hi, hz0, hz1, hz2⟩ := info_parts Tryz.infoRange
  have HK0 := Lib.hid k0
  have HE := Lib.hid he
  obtain ⟨A, c, rfl, hUc, hcm⟩ := he.uids.form
  have e4 := k0.at_.uids.1
  have hfew := he.few
  have hrd := refRead_any t E.uids.length w (by omega) (by omega)
  rw [← readL_eq] at hrd
  unfold placeP
  obtain ⟨rr, hrr⟩ : ∃ rr, readL t.data.toList E.uids.length = rr := ⟨_, rfl⟩
  rw [hrr] at hrd ⊢
  clear hrr
  obtain ⟨set, re⟩ := rr
  simp only at hrd ⊢
  obtain ⟨res, hres⟩ : ∃ res, (if re = 0 then putP (tmS E.box (mergeR (placesGo set 0 E.uids))) ws out mod else none) = res := ⟨_, rfl⟩
  rw [hres]
  have HRES := Lib.hid hres
  clear hres
  obtain ⟨U, hU⟩ : ∃ U, E.uids.length = U := ⟨_, rfl⟩
  rw [hU] at e4 hrd hUc hfew HK0
  rw [hU]
  have HU := Lib.hid hU
  obtain ⟨nok, hok⟩ : ∃ nok, (re != 0) = nok := ⟨_, rfl⟩
  have HOK := Lib.hid hok
  clear k0 he hU
  go_enter Tryz.func48, Tryz.ntmps48
  go_wp2_with (first
    | (go_at_call 80; refine hrd.mono ?_; rintro e w2 ⟨v4, h4, rfl, hs4, hb4⟩; obtain ⟨A4, c4, rfl, _, _⟩ := hs4.form; have hk4 := HK0.out.below hb4; obtain ⟨_, _, _, _, _, _, _, _, _, f4, _, f6, ef, hgl⟩ := hk4.at_.cells; have ff := ef 6 (by omega); have HK := Lib.hid (hk4.trans (hk4.at_.setBad nok)); have hgs : h4 ≠ some g := (fun e => by obtain ⟨_, _, _, _, hgB, _⟩ := hk4.at_.rd; exact hs4.ne_blk hgB (by decide) g e rfl); have HS4 := Lib.hid (hs4.far (p := ⟨g, 6, none⟩) hgs (.bool nok)); clear hb4 hs4 hrd hk4 ef hgs)
    | fail)
  generalize w2.setCell ⟨g, 6, none⟩ (.bool nok) = wB at HK HS4 ⊢
  clear f4 f6 ff
  go_loopw [7, 8] (fun o i wr => ∃ (k : Nat) (acc : List Rg) (hh : Option Nat), k ≤ U ∧ i = .int .i64 k ∧ Hid (PSt wB wr set E.uids k o acc hh)) (fun _ i _ => U - (intOf i).toNat)
  case atStart => exact ⟨0, [], none, Nat.zero_le _, rfl, Lib.hid ⟨Sl.nil _ _ _, Below.refl _ _, by simp, Nat.le_refl _, by simp, by simp⟩⟩
  case round =>
    obtain ⟨k, acc, hh, hk, rfl, HP⟩ := hrel
    have e4r := (HK.out.below HP.out.bel).at_.uids.1
    have hgl := (HK.out.below HP.out.bel).at_.cells
    obtain ⟨_, _, _, _, _, _, _, _, _, _, _, _, _, hgr⟩ := hgl
    by_cases hlt : k < U
    · have hkU : k < E.uids.length := by rw [HU.out]; exact hlt
      obtain ⟨b, off, cap, hv, _, _, hbl, _, hat⟩ := HE.out.uids.at_ (by omega)
      injection hv with hv1 hv2 hv3
      subst hv1
      clear hv2 hv3
      have hc0 := hat k (by omega)
      have hg : (intC E.uids)[k]? = some (.int .i64 E.uids[k]) := by simp [intC, hkU]
      rw [hg] at hc0
      have hnum := HE.out.nums E.uids[k] (List.getElem_mem hkU)
      have hbelow : Below w0.heap.size w0 wr := HK.out.at_.bel.trans (HP.out.bel.mono HK.out.at_.bel.size)
      have hc1 : wr.cell? ⟨b, off + k, none⟩ = some (.int .i64 E.uids[k]) := (hbelow.cell (p := ⟨b, off + k, none⟩) hbl).trans hc0
      have hin := refIn_any wr (.slice A4 set.length c4) set.length set ((k : Int) + 1) rfl ((HS4.out.below HP.out.bel).reads [] (by simp))
      have hbr : b < wr.heap.size := Nat.lt_of_lt_of_le hbl hbelow.size
      obtain ⟨u, hu⟩ : ∃ u, E.uids[k] = u := ⟨_, rfl⟩
      obtain ⟨ins, hins⟩ : ∃ ins, inL set ((k : Int) + 1) = ins := ⟨_, rfl⟩
      rw [hins] at hin
      rw [hu] at hc1 hnum
      obtain ⟨hn1, hn2⟩ := hnum
      have HIN := Lib.hid hins
      have HUU := Lib.hid hu
      have hP4 : acc.length ≤ 200 := by have := HP.out.few; omega
      clear hat hc0 hg hbelow hins hu
      cases ins with
      | false =>
        have hskip := HP.out.skip (Below.refl _ _) hkU (by rw [HIN.out]; simp)
        have HSK := Lib.hid hskip
        clear hskip
        go_wp2_with (first
          | (go_at_call 81; refine hin.mono ?_; rintro e w3 ⟨rfl, rfl⟩)
          | fail)
        refine ⟨?_, by simp [intOf]; omega⟩
        first | exact ⟨k + 1, _, _, by omega, by go_num, HSK⟩ | ((repeat apply Exists.intro); exact ⟨⟨k + 1, _, _, by omega, by go_num, HSK⟩, rfl⟩)
      | true =>
        have hsl := HP.out.sl
        obtain ⟨Ao, co, rfl, _, _⟩ := hsl.form
        have HSL := Lib.hid hsl
        generalize hNe : acc.length = N at HSL hP4
        have HNE := Lib.hid hNe
        clear hNe hsl
        go_upto_region 8 with (first
          | (go_at_call 81; refine hin.mono ?_; rintro e w3 ⟨rfl, rfl⟩)
          | fail)
        go_region_law (refine step_append_sl _ (by rfl) (.tmp 43) (.tmp 59) _ (by rfl) Tryz.underlying55 hi hz0 hz1 hz2 rfl (by omega) ((HSL.out.alloc _).heap (by rfl)) (by simp [Act.eval]) wr.heap.size #[.int .i64 u, .int .i64 u] (e' := 75) (fr := (0, 0)) (heap_alloc_new wr _) 1 1 (by simp [Act.eval]) (by rfl) (by simp [Value.oneCell']) (by unfold maxLen; omega) (by omega) ?_; intro v2 h2 w2' hs2 hc2 ho2; obtain ⟨A3, cap3, rfl, _, _⟩ := hs2.form)
        all_goals
          have hst := HP.out.push (w3 := wr.alloc (.cells #[.int .i64 u, .int .i64 u] 75)) ((Below.refl _ _).alloc (Nat.le_refl _) _) hkU ⟨HIN.out, by rw [HUU.out]; omega⟩ HUU.out (by omega) (by rw [HNE.out]; simpa using hs2) ⟨hc2.os, hc2.tape, hc2.output, hc2.size, hc2.block⟩ ho2
          have HST := Lib.hid hst
          clear hst hs2 hc2 ho2
          go_wp2
          refine ⟨?_, by simp [intOf]; omega⟩
          first | exact ⟨k + 1, _, _, by omega, by go_num, HST⟩ | ((repeat apply Exists.intro); exact ⟨⟨k + 1, _, _, by omega, by go_num, HST⟩, rfl⟩)
    · have hkU : k = U := by omega
      subst hkU
      have hgo := HP.out.go
      rw [List.drop_of_length_le (by rw [HU.out]; exact Nat.le_refl _)] at hgo
      have hgo : placesGo set 0 E.uids = acc := by simpa [placesGo] using hgo
      have HGO := Lib.hid hgo
      have hmp := merge_places set E.uids
      rw [hgo] at hmp
      have HMP := Lib.hid hmp
      have hrng : ∀ x ∈ acc, 0 ≤ x.1 ∧ x.1 ≤ 9223372036854775807 ∧ x.2 ≤ 9223372036854775807 := fun x hx => by
        have h1 := HP.out.rng x hx
        have h2 := places_pt set E.uids 0 x (by rw [hgo]; exact hx)
        omega
      have HRNG := Lib.hid hrng
      clear hrng
      have hmg := fun W v (hs : Sl W 75 2 v hh acc.length (flatR acc)) => refMerge_any W v acc.length acc rfl (hs.reads [] (by simp)) (by have := HP.out.few; omega) HRNG.out
      have hsl := HP.out.sl.below (w' := wr.drew) ⟨rfl, rfl, rfl, Nat.le_refl _, fun _ _ => rfl⟩
      have HKR := Lib.hid (HK.out.below HP.out.bel)
      have f3 := HKR.out.at_.uids.2
      have hmg2 := hmg _ _ hsl
      clear hgo hmg hmp hsl
      go_upto_region 9 with (fail)
      go_region_held3 (fun W => W.cell? ⟨g, 3, none⟩ = some (.int .i64 E.box)) (first | exact f5 | exact f7 | go_keep) (first
        | (go_at_call 82; refine hmg2.mono ?_; rintro e w5 ⟨v5, h5, rfl, hs5, hb5⟩; obtain ⟨A5, c5, rfl, _, _⟩ := hs5.form; have HK5 := Lib.hid (HKR.out.below (w'' := w5) ⟨hb5.os, hb5.tape, hb5.output, hb5.size, hb5.block⟩); have f5 := HK5.out.at_.uids.2; have HS5 := Lib.hid hs5; clear hs5 hb5)
        | (go_at_call 29; refine (add_anyS HK5.out (tmS E.box (rGo acc)) _ (.slice none 0 0) _ ⟨_, HS5.out⟩ (Sl.nil _ _ _) (by simp) (by omega)).mono ?_; rintro e w7 ⟨h7, rfl, hk7⟩; have HK7 := Lib.hid hk7; have f7 := hk7.at_.uids.2; clear hk7)
        | fail)
      all_goals
        go_wp2
        go_ret
        refine ⟨_, _, _, _, nok, _, rfl, HK7.out, ?_, ?_, ?_⟩
        · rw [← HRES.out, HGO.out, HMP.out, ← HOK.out]
          by_cases hre : re = 0 <;> simp [hre, putP]
        · simp only [List.length_append, List.length_cons, List.length_nil]
          omega
        · split <;> omega
end

end Go.Proofs.YtnfabgbidkddhaaGreatDoor
