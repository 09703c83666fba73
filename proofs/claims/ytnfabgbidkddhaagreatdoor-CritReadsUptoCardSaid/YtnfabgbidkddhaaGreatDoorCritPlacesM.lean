/-
  The walk of crit's places: the messages at places.
-/
import Derived.Test.YtnfabgbidkddhaaGreatDoorCritAsk2M
namespace Go.Proofs.YtnfabgbidkddhaaGreatDoor
open Go.RowKit
attribute [local go_sem ↓] Go.wp_at_zero Go.wp_at_succ

/-- What the loop over the numbers keeps. -/
structure PSt (w2 wr : World) (set : List Rg) (us : List Int) (k : Nat) (o : Value) (acc : List Rg) (hh : Option Nat) : Prop where
  sl : Sl wr 75 2 o hh acc.length (flatR acc)
  bel : Below w2.heap.size w2 wr
  own : ∀ b, hh = some b → w2.heap.size ≤ b
  few : acc.length ≤ k
  rng : ∀ x ∈ acc, 1 ≤ x.1 ∧ x.1 ≤ 9223372036854775807
  go : placesGo set 0 us = acc ++ placesGo set k (us.drop k)
theorem PSt.skip {w2 wr w3 : World} {set : List Rg} {us : List Int} {k : Nat} {o : Value} {acc : List Rg} {hh : Option Nat} (p : PSt w2 wr set us k o acc hh) (hb : Below wr.heap.size wr w3) (hk : k < us.length) (hn : ¬ (inL set ((k : Int) + 1) = true ∧ 0 < us[k])) : PSt w2 w3 set us (k + 1) o acc hh := by
  refine ⟨p.sl.below hb, p.bel.trans (hb.mono p.bel.size), p.own, by have := p.few; omega, p.rng, ?_⟩
  rw [p.go, List.drop_eq_getElem_cons hk]
  show acc ++ (if _ then _ else _) = _
  rw [if_neg hn]
theorem PSt.push {w2 wr w3 w4 : World} {set : List Rg} {us : List Int} {k : Nat} {o v' : Value} {acc : List Rg} {hh h' : Option Nat} (p : PSt w2 wr set us k o acc hh) (hb : Below wr.heap.size wr w3) (hk : k < us.length) (hy : inL set ((k : Int) + 1) = true ∧ 0 < us[k]) {u : Int} (hu : us[k] = u) (hu2 : u ≤ 9223372036854775807)
    (hs : Sl w4 75 2 v' h' (acc.length + 1) (flatR acc ++ [.int .i64 u, .int .i64 u])) (hc : Chg hh.toList w3 w4) (ho : h' = hh ∨ ∃ b, h' = some b ∧ w3.heap.size ≤ b) : PSt w2 w4 set us (k + 1) v' (acc ++ [(u, u)]) h' := by
  have hb3 := p.bel.trans (hb.mono p.bel.size)
  refine ⟨?_, hb3.trans (hc.below hb3.size fun b hb => p.own b (by simpa using hb)), fun b hb => ?_, by have := p.few; simp; omega, ?_, ?_⟩
  · have e := flatR_snoc acc u u
    rw [e] at hs
    simpa using hs
  · rcases ho with h1 | ⟨b', h1, h2⟩
    · exact p.own b (by rw [← h1]; exact hb)
    · rw [h1] at hb
      injection hb with hb
      have := hb3.size
      omega
  · intro x hx
    rcases List.mem_append.1 hx with hx | hx
    · exact p.rng x hx
    · rw [List.mem_singleton.1 hx]
      rw [hu] at hy
      exact ⟨by show 1 ≤ u; omega, hu2⟩
  · rw [p.go, List.drop_eq_getElem_cons hk]
    show acc ++ (if _ then _ else _) = _
    rw [if_pos hy, hu]
    simp

section
variable {w0 w w' : World} {g ob mb : Nat} {uv : Value} {E : CEnv} {ws : List WT} {out : Out} {mod : Bool} {h : Hn}

set_option maxRecDepth 100000 in
set_option maxHeartbeats 4000000 in
theorem places_anyK (s : RAt w0 w g ob mb uv E ws out mod h) (he : EAt w0 uv E) (t : ByteArray) (ht : t.size ≤ 1100) (hn : out.length ≤ 1000000000000) :
    Calls Tryz.prog 43 #[.pointer (some ⟨g, 0, none⟩), .string t] w (KOut w0 w g ob mb uv E h (out.length + 3 * szL ws + 1) (szL ws + 1) (placeP E t ws out mod)) := by
  obtain ⟨i0, hi, hz0, hz1, hz2⟩ := info_parts Tryz.infoRange
  have HM := Lib.hid (he.mx.below s.bel)
  have HS := Lib.hid s
  have HE := Lib.hid he
  obtain ⟨A, c, rfl, hUc, hcm⟩ := he.uids.form
  have e1 := s.cells.1
  have e2 := s.cells.2.1
  have hfew := he.few
  have hrd := read_any t E.uids.length w (by omega) (by omega) HM.out
  unfold placeP
  obtain ⟨rr, hrr⟩ : ∃ rr, readL t.data.toList E.uids.length = rr := ⟨_, rfl⟩
  rw [hrr] at hrd ⊢
  clear hrr
  obtain ⟨set, re⟩ := rr
  simp only at hrd ⊢
  obtain ⟨res, hres⟩ : ∃ res, (if re = 0 then putP (tmS E.box (mergeR (placesGo set 0 E.uids))) ws out mod else none) = res := ⟨_, rfl⟩
  rw [hres]
  have HRES := Lib.hid hres
  clear hres
  obtain ⟨U, hU⟩ : ∃ U, E.uids.length = U := ⟨_, rfl⟩
  rw [hU] at e2 hrd hUc hfew HS
  rw [hU]
  have HU := Lib.hid hU
  clear s he hU
  go_enter Tryz.func43, Tryz.ntmps43
  go_wp2_with (first
    | (go_at_call 63; refine hrd.mono ?_; rintro e w2 ⟨v4, h4, rfl, hs4, hb4⟩; obtain ⟨A4, c4, rfl, _, _⟩ := hs4.form; have hk4 := HS.out.still hb4; have f1 := hk4.at_.cells.1; have f2 := hk4.at_.cells.2.1; have HK := Lib.hid hk4; have HS4 := Lib.hid hs4; clear hb4 hs4 hrd hk4)
    | fail)
  go_loopw [8, 26] (fun o i wr => ∃ (k : Nat) (acc : List Rg) (hh : Option Nat), k ≤ U ∧ i = .int .i64 k ∧ Hid (PSt w2 wr set E.uids k o acc hh)) (fun _ i _ => U - (intOf i).toNat)
  case atStart => exact ⟨0, [], none, Nat.zero_le _, rfl, Lib.hid ⟨Sl.nil _ _ _, Below.refl _ _, by simp, Nat.le_refl _, by simp, by simp⟩⟩
  case round =>
    obtain ⟨k, acc, hh, hk, rfl, HP⟩ := hrel
    by_cases hlt : k < U
    · have hkU : k < E.uids.length := by rw [HU.out]; exact hlt
      obtain ⟨b, off, cap, hv, _, _, hbl, _, hat⟩ := HE.out.uids.at_ (by omega)
      injection hv with hv1 hv2 hv3
      subst hv1
      clear hv2 hv3
      have hc0 := hat k (by omega)
      have hg : (intC E.uids)[k]? = some (.int .i64 E.uids[k]) := by simp [intC, hkU]
      rw [hg] at hc0
      have hnum := HE.out.nums E.uids[k] (List.getElem_mem hkU)
      have hbelow : Below w0.heap.size w0 wr := HK.out.at_.bel.trans (HP.out.bel.mono HK.out.at_.bel.size)
      have hc1 : wr.cell? ⟨b, off + k, none⟩ = some (.int .i64 E.uids[k]) := (hbelow.cell (p := ⟨b, off + k, none⟩) hbl).trans hc0
      have hin := in_any wr (.slice A4 set.length c4) set.length set ((k : Int) + 1) rfl ((HS4.out.below HP.out.bel).reads [] (by simp))
      obtain ⟨u, hu⟩ : ∃ u, E.uids[k] = u := ⟨_, rfl⟩
      obtain ⟨ins, hins⟩ : ∃ ins, inL set ((k : Int) + 1) = ins := ⟨_, rfl⟩
      rw [hins] at hin
      rw [hu] at hc1 hnum
      obtain ⟨hn1, hn2⟩ := hnum
      have HIN := Lib.hid hins
      have HUU := Lib.hid hu
      have hP4 : acc.length ≤ 200 := by have := HP.out.few; omega
      clear hat hc0 hg hbelow hins hu
      cases ins with
      | false =>
        have hskip := fun w3 (hb : Below wr.heap.size wr w3) => HP.out.skip hb hkU (by rw [HIN.out]; simp)
        go_wp2_with (first
          | (go_at_call 64; refine hin.mono ?_; rintro e w3 ⟨rfl, hb3⟩; have HP3 := Lib.hid (hskip w3 hb3); clear hb3 hin hskip)
          | fail)
        refine ⟨?_, by simp [intOf]; omega⟩
        first | exact ⟨k + 1, _, _, by omega, by go_num, HP3⟩ | ((repeat apply Exists.intro); exact ⟨⟨k + 1, _, _, by omega, by go_num, HP3⟩, rfl⟩)
      | true =>
        have hsl3 := fun w3 (hb : Below wr.heap.size wr w3) => HP.out.sl.below hb
        go_wp2_with (first
          | (go_at_call 64; refine hin.mono ?_; rintro e w3 ⟨rfl, hb3⟩; have HB3 := Lib.hid hb3; have HO3 := Lib.hid (hsl3 w3 hb3); clear hb3 hin hsl3)
          | (at_builtin; refine wpList_append_slX rfl _ _ 55 rfl Tryz.underlying55 hi hz0 hz1 hz2 rfl (by decide) HO3.out rfl w3.heap.size rfl 1 1 rfl rfl ?_ ?_ ?_ ?_)
          | fail)
        · simp [Value.oneCell']
        · unfold maxLen
          omega
        · omega
        · intro v' h' w4 r1 r2 r3
          have hst := HP.out.push HB3.out hkU ⟨HIN.out, by rw [HUU.out]; omega⟩ HUU.out (by omega) (by simpa using r1) r2 (by simpa using r3)
          have HST := Lib.hid hst
          clear hst r1 r2 r3 HO3
          go_wp2
          refine ⟨?_, by simp [intOf]; omega⟩
          first | exact ⟨k + 1, _, _, by omega, by go_num, HST⟩ | ((repeat apply Exists.intro); exact ⟨⟨k + 1, _, _, by omega, by go_num, HST⟩, rfl⟩)
    · have hkU : k = U := by omega
      subst hkU
      have hgo := HP.out.go
      rw [List.drop_of_length_le (by rw [HU.out]; exact Nat.le_refl _)] at hgo
      have hgo : placesGo set 0 E.uids = acc := by simpa [placesGo] using hgo
      have HGO := Lib.hid hgo
      have hmg := fun W (hb : Below wr.heap.size wr W) => merge_any W u8 hh acc.length acc (HP.out.sl.below hb) (by have := HP.out.few; omega) HP.out.rng
      have HKR := Lib.hid (HK.out.below HP.out.bel)
      have f3 := HKR.out.at_.cells.1
      have hmg2 := hmg wr.drew ⟨rfl, rfl, rfl, Nat.le_refl _, fun _ _ => rfl⟩
      clear hgo hmg
      go_upto_region 9 with (fail)
      go_region_held3 (fun W => W.cell? ⟨g, 1, none⟩ = some (.int .i64 E.box)) (first | exact f5 | exact f7 | go_keep) (first
        | (go_at_call 65; refine hmg2.mono ?_; rintro e w5 ⟨v5, h5, rfl, hs5, hb5⟩; obtain ⟨A5, c5, rfl, _, _⟩ := hs5.form; have HK5 := Lib.hid (HKR.out.below (w'' := w5) ⟨hb5.os, hb5.tape, hb5.output, hb5.size, hb5.block⟩); have f5 := HK5.out.at_.cells.1; have HS5 := Lib.hid hs5; clear hs5 hb5)
        | (go_at_call 45; refine (put_anyC HK5.out.at_ (tmS E.box (mergeR acc)) _ (.slice none 0 0) ⟨⟨_, HS5.out⟩, ⟨none, Sl.nil _ _ _, by simp⟩⟩ (by omega)).mono ?_; rintro e w7 ⟨h7, rfl, hk7⟩; have HK7 := Lib.hid (HK5.out.trans hk7); have f7 := hk7.at_.cells.1; clear hk7)
        | fail)
      all_goals
        go_wp2
        go_ret2
        refine ⟨_, (re == 0), _, _, _, _, rfl, HK7.out, ?_, ?_, ?_⟩
        · rw [← HRES.out, HGO.out]
          simp [putP]
        · simp only [List.length_append, List.length_cons, List.length_nil]
          omega
        · split <;> omega
end

end Go.Proofs.YtnfabgbidkddhaaGreatDoor
