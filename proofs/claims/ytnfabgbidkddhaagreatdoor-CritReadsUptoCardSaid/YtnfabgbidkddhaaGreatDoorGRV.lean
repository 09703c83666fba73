/-
  The walks of the reference's search: all, list, of so many words.
  The walk of the reference's other, key by key.
  The reference's other, of any word but the flags' and the keywords'.
  What a key asks does not lean on whether clocks were asked for ahead of it. Plain; no condition.
  The walk of the reference's list: another search of the same terms.
  Sets and places of a text in small letters: as of the text. Plain; no condition.
-/
import Derived.Test.YtnfabgbidkddhaaGreatDoorSrchYM
import Derived.Test.YtnfabgbidkddhaaGreatDoorGRF
import Derived.Test.YtnfabgbidkddhaaGreatDoorGRB
namespace Go.Proofs.YtnfabgbidkddhaaGreatDoor
open Go.RowKit
attribute [local go_sem ↓] Go.wp_at_zero Go.wp_at_succ

/-- The contract of the search's one, of so many words at most. -/
def SRec (E : CEnv) (N : Nat) : Prop := ∀ (w0 wS w : World) (g : Nat) (uv : Value) (ws : List WT) (out : Out) (mod : Bool) (h0 h : Hn), EAt w0 uv E → SSt w0 wS w g uv E h0 ws out mod false h → szL ws ≤ N → out.length + 3 * szL ws ≤ 900000000000 →
  Calls Tryz.prog 28 #[.pointer (some ⟨g, 0, none⟩)] w (SOut w0 wS g uv E h0 (out.length + 3 * szL ws) (szL ws) (keyP E N ws out mod))

/-- What the loop over the keys keeps. -/
structure LSS (w0 wS wr : World) (g : Nat) (uv : Value) (E : CEnv) (N : Nat) (res : Option (Int × Out × Bool)) (h0 : Hn) (B S : Nat) (ws : List WT) (o : Value) (kids : List Int) (hk : Option Nat) (wsj : List WT) (outj : Out) (modj badj : Bool) (hj : Hn) (j : Nat) : Prop where
  kst : SSt w0 wS wr g uv E h0 wsj outj modj badj hj
  sl : Sl wr 3 1 o hk kids.length (intC kids)
  own : ∀ b, hk = some b → wS.heap.size ≤ b ∧ ¬ hj.f b
  go : badj = false → res = wholeP (keyP E N) j wsj outj modj kids
  ill : badj = true → res = none
  nemp : kids = [] → wsj = ws ∧ badj = false
  fuel : szL wsj ≤ j ∧ j ≤ N
  bnd : outj.length + 3 * szL wsj ≤ B
  few : kids.length + szL wsj + (if badj = true then 0 else 1) ≤ S + 1

section
variable {w0 wS wr w3 w4 : World} {g : Nat} {uv : Value} {E : CEnv} {N : Nat} {res : Option (Int × Out × Bool)} {h0 : Hn} {B S : Nat} {ws : List WT} {o : Value} {kids : List Int} {hk : Option Nat} {wsj : List WT} {outj : Out} {modj : Bool} {hj : Hn} {j : Nat}

theorem LSS.push {t : WT} {ts : List WT} (p : LSS w0 wS wr g uv E N res h0 B S ws o kids hk (t :: ts) outj modj false hj j) {k : Int} {ws' : List WT} {out' : Out} {mod' bad' : Bool} {h' : Hn}
    (kk : SSt w0 wr w3 g uv E hj ws' out' mod' bad' h') (hres : keyP E N (t :: ts) outj modj = (if bad' = true then none else some (k, ws', out', mod'))) (hb : out'.length + 3 * szL ws' ≤ outj.length + 3 * szL (t :: ts)) (hs : szL ws' + (if bad' = true then 0 else 1) ≤ szL (t :: ts))
    {v' : Value} {hk' : Option Nat} (hsl : Sl w4 3 1 v' hk' (kids.length + 1) (intC kids ++ [.int .i64 k])) (hc : Chg hk.toList w3 w4) (ho : hk' = hk ∨ ∃ b, hk' = some b ∧ w3.heap.size ≤ b) (hlow : w0.heap.size ≤ wS.heap.size) :
    LSS w0 wS w4 g uv E N res h0 B S ws v' (kids ++ [k]) hk' ws' out' mod' bad' h' (if bad' = true then j else j - 1) := by
  have h2 := p.fuel.1
  have h3 := szW_pos t
  have hst := p.kst.trans kk
  have hsl3 := kk.ints p.kst.at_ p.sl
  have hnf : ∀ b, hk = some b → ¬ h'.f b := fun b hb hf => by
    rcases kk.fnew b hf with h1 | h1
    · exact (p.own b hb).2 h1
    · have := p.sl.lt b hb
      omega
  have hblk : ∀ b, hk = some b → ∃ cur, Blk w3 b 3 cur := fun b hb => hsl3.blkOf b hb
  have hkeep : SKeep h'.f w3 w4 := by
    intro b e cs hB he
    refine hc.block b hB.lt fun hm => ?_
    have hm : hk = some b := by simpa using hm
    rcases he with he | he
    · obtain ⟨cur, hB2⟩ := hblk b hm
      have := (hB.inj hB2).1
      rw [he] at this
      exact absurd this (by decide)
    · exact hnf b hm he.2
  have hap : ∀ k ∈ g :: h'.b.toList, k ∉ hk.toList := by
    intro k hk1 hk2
    have hk2 : hk = some k := by simpa using hk2
    obtain ⟨e, cs, hB, _, h5⟩ := hst.at_.own k hk1
    obtain ⟨cur, hB2⟩ := hblk k hk2
    exact h5 (hB.inj hB2).1
  have hat : SAt w0 w4 g uv E ws' out' mod' bad' h' := by
    have s := hst.at_
    obtain ⟨wv, fv, xs, pre, hg, hw, hs1, hx⟩ := s.rd
    refine ⟨⟨wv, fv, xs, pre, hg.chg hc (hap g (by simp)), hw, hs1.chg hc fun b hb => hap b (by simp [hb]), OutAt.keep hkeep _ _ hx⟩, s.bel.trans (hc.below s.bel.size fun b hb => ?_), s.lo, s.ok, fun b hb => Nat.lt_of_lt_of_le (s.fl b hb) hc.size⟩
    have hb : hk = some b := by simpa using hb
    exact Nat.le_trans hlow (p.own b hb).1
  simp only [szL] at h2 hb hs
  refine ⟨⟨hat, hst.chg.trans hc fun i hi => .inr ?_, hst.new, hst.fnew⟩, ?_, ?_, ?_, ?_, ?_, ⟨?_, ?_⟩, by have := p.bnd; simp only [szL] at this; omega, ?_⟩
  · have hi : hk = some i := by simpa using hi
    exact (p.own i hi).1
  · rw [intC_snoc]
    simpa using hsl
  · intro b hb
    rcases ho with h1 | ⟨b', h1, h4⟩
    · rw [h1] at hb
      exact ⟨(p.own b hb).1, hnf b hb⟩
    · rw [h1] at hb
      injection hb with hb
      subst hb
      exact ⟨Nat.le_trans hst.chg.size h4, fun hf => by have := hst.at_.fl _ hf; omega⟩
  · intro hbad
    subst hbad
    rw [p.go rfl]
    cases j with
    | zero => omega
    | succ j =>
      simp only [Bool.false_eq_true, if_false] at hres ⊢
      rw [wholeP_step, hres, Nat.add_sub_cancel]
  · intro hbad
    subst hbad
    rw [p.go rfl]
    cases j with
    | zero => omega
    | succ j =>
      simp only [if_true] at hres
      rw [wholeP_step, hres]
  · intro h
    simp at h
  · split at hs <;> simp_all <;> omega
  · have := p.fuel.2
    split <;> omega
  · have := p.few
    simp only [szL, Bool.false_eq_true, if_false] at this
    rw [List.length_append, List.length_singleton]
    omega
end

/-- What all hands back. -/
def SAll (w0 wS : World) (g : Nat) (uv : Value) (E : CEnv) (h0 : Hn) (ws : List WT) (bound : Nat) (res : Option (Int × Out × Bool)) (e : Ending) (w' : World) : Prop :=
  ∃ k ws' out' mod' bad' h', e = .returned (.int .i64 k) ∧ SSt w0 wS w' g uv E h0 ws' out' mod' bad' h' ∧ (ws ≠ [] → res = (if bad' = true then none else some (k, out', mod'))) ∧ out'.length ≤ bound

def lenS : Value → Nat
  | .slice _ n _ => n
  | _ => 0

section
variable {w0 wS w : World} {g : Nat} {uv : Value} {E : CEnv} {ws : List WT} {out : Out} {mod : Bool} {h0 h : Hn}

set_option maxRecDepth 100000 in
set_option maxHeartbeats 4000000 in
theorem all_anyS {N : Nat} (hr : SRec E N) (k0 : SSt w0 wS w g uv E h0 ws out mod false h) (he : EAt w0 uv E) (hlow : w0.heap.size ≤ wS.heap.size) (hN : szL ws ≤ N) (hn : out.length + 3 * szL ws ≤ 900000000000) :
    Calls Tryz.prog 20 #[.pointer (some ⟨g, 0, none⟩)] w (SAll w0 wS g uv E h0 ws (out.length + 3 * szL ws + 1) (wholeP (keyP E N) N ws out mod [])) := by
  obtain ⟨i0, hi, hz0, hz1, hz2⟩ := info_parts Tryz.infoInt
  obtain ⟨res, hres⟩ : ∃ res, wholeP (keyP E N) N ws out mod [] = res := ⟨_, rfl⟩
  rw [hres]
  have HP0 := Lib.hid (show LSS w0 wS w g uv E N res h0 (out.length + 3 * szL ws) (szL ws) ws (.slice none 0 0) [] none ws out mod false h N from
    ⟨k0, Sl.nil _ _ _, by simp, fun _ => hres.symm, by simp, by simp, ⟨hN, Nat.le_refl _⟩, Nat.le_refl _, by simp⟩)
  have HR := Lib.hid hr
  have HE := Lib.hid he
  obtain ⟨bnd, hbnd⟩ : ∃ bnd, out.length + 3 * szL ws = bnd := ⟨_, rfl⟩
  obtain ⟨S, hS⟩ : ∃ S, szL ws = S := ⟨_, rfl⟩
  rw [hbnd] at hn HP0
  rw [hS] at HP0
  rw [hbnd]
  have hS2 : S ≤ 900000000000 := by omega
  have HL0 := Lib.hid hlow
  clear hres k0 hr he hbnd hS hN hlow
  go_enter Tryz.func20, Tryz.ntmps20
  go_wp2_with fail
  go_loopw [3] (fun o wr => ∃ (kids : List Int) (hk : Option Nat) (wsj : List WT) (outj : Out) (modj badj : Bool) (hj : Hn) (j : Nat), Hid (LSS w0 wS wr g uv E N res h0 bnd S ws o kids hk wsj outj modj badj hj j)) (fun o wr => S + 1 - lenS o)
  case atStart => exact ⟨_, _, _, _, _, _, _, _, HP0⟩
  case round =>
    obtain ⟨kids, hk, wsj, outj, modj, badj, hj, j, HP⟩ := hrel
    have hfw := HP.out.few
    have hbn := HP.out.bnd
    have s := HP.out.kst.at_
    obtain ⟨wv, A, cap, pre, hw, e0, e1, e2, e3, e4, e5, e6, ef, hgl⟩ := s.cells
    obtain ⟨Aw, cw, rfl, _, hlw⟩ := hw.form
    have hsl := HP.out.sl
    have hadd := fun q => add_anyS (HP.out.kst.drewN q) (tmK 1 kids) (.slice none 0 0) u3 hk ⟨none, Sl.nil _ _ _⟩ (hsl.below (w' := wr.drewN q) ⟨rfl, rfl, rfl, Nat.le_refl _, fun _ _ => rfl⟩) (fun b hb => (HP.out.own b hb).1) (by omega)
    obtain ⟨Ao, co, hov, _, _⟩ := hsl.form
    have HSL := Lib.hid hsl
    generalize hkl : kids.length = n at hov hfw
    have HKL := Lib.hid hkl
    subst hov
    cases badj with
    | true =>
      cases wsj with
      | nil =>
        have hlen : (pre ++ ([] : List WT)).length = pre.length := by simp
        rw [hlen] at e0
        generalize pre.length = i at e0 e1
        have c1 : decide ((i : Int) < (i : Int)) = false := by simp
        clear s hw hsl hkl ef hlw hlen
        go_upto_region 2 with (fail)
        go_quiet (fail)
        go_wp2_with (first
          | (go_at_call 29; refine (hadd _).mono ?_; rintro e w5 ⟨h5, rfl, hk5⟩; have HK5 := Lib.hid hk5; clear hk5 hadd)
          | fail)
        go_ret
        have h1 := HP.out.ill rfl
        have h2 := HP.out.bnd
        refine ⟨_, _, _, _, true, _, rfl, HK5.out, fun _ => by rw [h1]; rfl, ?_⟩
        rw [List.length_append, List.length_singleton]
        omega
      | cons t ts =>
        have hlen : (pre ++ t :: ts).length = pre.length + (ts.length + 1) := by simp
        rw [hlen] at e0
        have hil : pre.length < pre.length + (ts.length + 1) := by omega
        generalize pre.length + (ts.length + 1) = M at e0 hil
        generalize pre.length = i at e0 e1 hil
        have c1 : decide ((i : Int) < (M : Int)) = true := by simp; omega
        have c2 : (i : Int) < (M : Int) := by omega
        clear s hw hsl hkl ef hlw hlen
        go_upto_region 2 with (fail)
        go_quiet (fail)
        go_wp2_with (first
          | (go_at_call 29; refine (hadd _).mono ?_; rintro e w5 ⟨h5, rfl, hk5⟩; have HK5 := Lib.hid hk5; clear hk5 hadd)
          | fail)
        go_ret
        have h1 := HP.out.ill rfl
        have h2 := HP.out.bnd
        refine ⟨_, _, _, _, true, _, rfl, HK5.out, fun _ => by rw [h1]; rfl, ?_⟩
        rw [List.length_append, List.length_singleton]
        omega
    | false =>
      cases wsj with
      | nil =>
        have hlen : (pre ++ ([] : List WT)).length = pre.length := by simp
        rw [hlen] at e0
        generalize pre.length = i at e0 e1
        have c1 : decide ((i : Int) < (i : Int)) = false := by simp
        clear s hw hsl hkl ef hlw hlen
        go_upto_region 2 with (fail)
        go_quiet (fail)
        go_wp2_with (first
          | (go_at_call 29; refine (hadd _).mono ?_; rintro e w5 ⟨h5, rfl, hk5⟩; have HK5 := Lib.hid hk5; clear hk5 hadd)
          | fail)
        go_ret
        have h1 := HP.out.go rfl
        have h2 := HP.out.bnd
        have h3 := HP.out.nemp
        rw [wholeP_nil] at h1
        refine ⟨_, _, _, _, false, _, rfl, HK5.out, fun hne => ?_, ?_⟩
        · have hk1 : kids ≠ [] := fun e => hne (h3 e).1.symm
          rw [h1, if_neg hk1]
          rfl
        · rw [List.length_append, List.length_singleton]
          omega
      | cons t ts =>
        have hlen : (pre ++ t :: ts).length = pre.length + (ts.length + 1) := by simp
        rw [hlen] at e0
        have hil : pre.length < pre.length + (ts.length + 1) := by omega
        generalize pre.length + (ts.length + 1) = M at e0 hil
        generalize pre.length = i at e0 e1 hil
        have c1 : decide ((i : Int) < (M : Int)) = true := by simp; omega
        have c2 : (i : Int) < (M : Int) := by omega
        have hone := fun q => HR.out w0 wr (wr.drewN q) g uv (t :: ts) outj modj hj hj HE.out (s.refl.drewN q) (by have := HP.out.fuel; omega) (by omega)
        have hslk := fun w3 ws' out' mod' bad' h' (k : SSt w0 wr w3 g uv E hj ws' out' mod' bad' h') => k.ints s HSL.out
        have hl0 : w0.heap.size ≤ wS.heap.size := HL0.out
        clear s hw hsl hkl ef hlw hlen hadd
        go_upto_region 2 with (fail)
        go_quiet (fail)
        go_wp2_with (first
          | (go_at_call 28; refine (hone _).mono ?_; rintro e w3 ⟨k, ws', out', mod', bad', h', rfl, hkk, hres, hb, hsz⟩; have hs3 := hslk _ _ _ _ _ _ hkk; rw [HKL.out] at hs3; have HS3 := Lib.hid hs3; have HK := Lib.hid hkk; have HRES := Lib.hid hres; have HBD := Lib.hid hb; have HSZ := Lib.hid hsz; clear hkk hres hb hsz hone hslk hs3)
          | (at_builtin; refine wpList_append_slX rfl _ _ 23 rfl Tryz.underlying23 hi hz0 hz1 hz2 rfl (by decide) HS3.out rfl w3.heap.size rfl 1 1 rfl rfl ?_ ?_ ?_ ?_)
          | fail)
        · simp [Value.oneCell']
        · unfold maxLen
          omega
        · omega
        · intro v' hk' w4 r1 r2 r3
          have hst := HP.out.push HK.out HRES.out HBD.out HSZ.out (by rw [HKL.out]; simpa using r1) r2 (by simpa using r3) HL0.out
          have HST := Lib.hid hst
          obtain ⟨Av, cv, hv', _, _⟩ := r1.form
          subst hv'
          have hfw2 := hst.few
          rw [List.length_append, HKL.out, List.length_singleton] at hfw2
          clear hst r1 r2 r3 HS3
          go_wp2
          refine ⟨?_, by simp [lenS]; simp only [Bool.false_eq_true, if_false] at hfw; omega⟩
          first | exact ⟨_, _, _, _, _, _, _, _, HST⟩ | ((repeat apply Exists.intro); exact ⟨⟨_, _, _, _, _, _, _, _, HST⟩, rfl⟩)
end

end Go.Proofs.YtnfabgbidkddhaaGreatDoor

namespace Go.Proofs.YtnfabgbidkddhaaGreatDoor
open Go.RowKit
attribute [local go_sem ↓] Go.wp_at_zero Go.wp_at_succ

section
variable {w0 wS w : World} {g : Nat} {uv : Value} {E : CEnv} {ws : List WT} {out : Out} {mod : Bool} {h0 h : Hn} {N : Nat}

theorem hle_of {ok : Bool} {a b : Nat} (h : a + (if ok = true then 1 else 0) ≤ b) : a ≤ b := by omega

set_option maxRecDepth 100000 in
set_option maxHeartbeats 2000000 in
theorem other_all (hr : SRec E N) (k0 : SSt w0 wS w g uv E h0 ws out mod false h) (he : EAt w0 uv E) (_hN : szL ws ≤ N) (hn : out.length + 3 * szL ws ≤ 900000000000) :
    Calls Tryz.prog 51 #[.pointer (some ⟨g, 0, none⟩), .string ⟨#[97, 108, 108]⟩] w (SOut w0 wS g uv E h0 (out.length + 3 * szL ws + 3) (szL ws + 1) (askP E (keyP E N) .all ws out mod)) := by
  have HK0 := Lib.hid k0
  have HR := Lib.hid hr
  have HE := Lib.hid he
  clear k0 hr he
  go_enter Tryz.func51, Tryz.ntmps51
  go_wp2_with (first
    | (go_at_call 29; refine (addN_anyS HK0.out (tmK 1 []) rfl rfl (by first | omega | (simp only [List.length_append, List.length_singleton]; omega))).mono ?_; rintro e w3 ⟨h3, rfl, hk3⟩; have HK3 := Lib.hid hk3; clear hk3)
    | fail)
  go_ret
  refine ⟨_, _, _, _, false, _, rfl, HK3.out, rfl, ?_, by simp⟩
  simp only [List.length_append, List.length_singleton]
  omega

set_option maxRecDepth 100000 in
set_option maxHeartbeats 2000000 in
theorem other_before (hr : SRec E N) (k0 : SSt w0 wS w g uv E h0 ws out mod false h) (he : EAt w0 uv E) (_hN : szL ws ≤ N) (hn : out.length + 3 * szL ws ≤ 900000000000) :
    Calls Tryz.prog 51 #[.pointer (some ⟨g, 0, none⟩), .string ⟨#[98, 101, 102, 111, 114, 101]⟩] w (SOut w0 wS g uv E h0 (out.length + 3 * szL ws + 3) (szL ws + 1) (askP E (keyP E N) (.time 7) ws out mod)) := by
  have HK0 := Lib.hid k0
  have HR := Lib.hid hr
  have HE := Lib.hid he
  clear k0 hr he
  go_enter Tryz.func51, Tryz.ntmps51
  go_wp2_with (first
    | (go_at_call 85; refine (day_anyS HK0.out).mono ?_; rintro e w2 ⟨n, ok, ws', rfl, hks, hwp, hn1, hn2, hle⟩; have HW := Lib.hid hwp; have HL := Lib.hid (hle_of hle); have HK := Lib.hid (hks.cast (Bool.false_or _)); have hw1 : wrap64 (n + 1) = n + 1 := (by unfold wrap64; omega); have hw2 : wrap64 (n + 86400) = n + 86400 := (by unfold wrap64; omega); clear hks hwp hle)
    | (go_at_call 29; refine (addN_anyS HK.out (tmN 7 n) rfl rfl (by first | omega | (simp only [List.length_append, List.length_singleton]; omega))).mono ?_; rintro e w3 ⟨h3, rfl, hk3⟩; have HK3 := Lib.hid hk3; clear hk3)
    | fail)
  go_ret
  refine ⟨_, _, _, _, !ok, _, rfl, HK3.out, ?_, ?_, ?_⟩
  · show stepA E (.time 7) ws out mod = _
    unfold stepA
    rw [HW.out]
    cases ok <;> simp [putP]
  · have := HL.out
    simp only [List.length_append, List.length_singleton]
    omega
  · have := HL.out
    split <;> omega

set_option maxRecDepth 100000 in
set_option maxHeartbeats 2000000 in
theorem other_since (hr : SRec E N) (k0 : SSt w0 wS w g uv E h0 ws out mod false h) (he : EAt w0 uv E) (_hN : szL ws ≤ N) (hn : out.length + 3 * szL ws ≤ 900000000000) :
    Calls Tryz.prog 51 #[.pointer (some ⟨g, 0, none⟩), .string ⟨#[115, 105, 110, 99, 101]⟩] w (SOut w0 wS g uv E h0 (out.length + 3 * szL ws + 3) (szL ws + 1) (askP E (keyP E N) (.time 8) ws out mod)) := by
  have HK0 := Lib.hid k0
  have HR := Lib.hid hr
  have HE := Lib.hid he
  clear k0 hr he
  go_enter Tryz.func51, Tryz.ntmps51
  go_wp2_with (first
    | (go_at_call 85; refine (day_anyS HK0.out).mono ?_; rintro e w2 ⟨n, ok, ws', rfl, hks, hwp, hn1, hn2, hle⟩; have HW := Lib.hid hwp; have HL := Lib.hid (hle_of hle); have HK := Lib.hid (hks.cast (Bool.false_or _)); have hw1 : wrap64 (n + 1) = n + 1 := (by unfold wrap64; omega); have hw2 : wrap64 (n + 86400) = n + 86400 := (by unfold wrap64; omega); clear hks hwp hle)
    | (go_at_call 29; refine (addN_anyS HK.out (tmN 8 n) rfl rfl (by first | omega | (simp only [List.length_append, List.length_singleton]; omega))).mono ?_; rintro e w3 ⟨h3, rfl, hk3⟩; have HK3 := Lib.hid hk3; clear hk3)
    | fail)
  go_ret
  refine ⟨_, _, _, _, !ok, _, rfl, HK3.out, ?_, ?_, ?_⟩
  · show stepA E (.time 8) ws out mod = _
    unfold stepA
    rw [HW.out]
    cases ok <;> simp [putP]
  · have := HL.out
    simp only [List.length_append, List.length_singleton]
    omega
  · have := HL.out
    split <;> omega

set_option maxRecDepth 100000 in
set_option maxHeartbeats 2000000 in
theorem other_on (hr : SRec E N) (k0 : SSt w0 wS w g uv E h0 ws out mod false h) (he : EAt w0 uv E) (_hN : szL ws ≤ N) (hn : out.length + 3 * szL ws ≤ 900000000000) :
    Calls Tryz.prog 51 #[.pointer (some ⟨g, 0, none⟩), .string ⟨#[111, 110]⟩] w (SOut w0 wS g uv E h0 (out.length + 3 * szL ws + 3) (szL ws + 1) (askP E (keyP E N) .on ws out mod)) := by
  have HK0 := Lib.hid k0
  have HR := Lib.hid hr
  have HE := Lib.hid he
  clear k0 hr he
  go_enter Tryz.func51, Tryz.ntmps51
  go_wp2_with (first
    | (go_at_call 85; refine (day_anyS HK0.out).mono ?_; rintro e w2 ⟨n, ok, ws', rfl, hks, hwp, hn1, hn2, hle⟩; have HW := Lib.hid hwp; have HL := Lib.hid (hle_of hle); have HK := Lib.hid (hks.cast (Bool.false_or _)); have hw1 : wrap64 (n + 1) = n + 1 := (by unfold wrap64; omega); have hw2 : wrap64 (n + 86400) = n + 86400 := (by unfold wrap64; omega); clear hks hwp hle)
    | (go_at_call 29; refine (add_anyS (HK4.out.below ((Below.refl _ _).alloc (Nat.le_refl _) _)) (tmK 1 [(out.length : Int), (out.length : Int) + 1]) _ _ _ ⟨none, Sl.nil _ _ _⟩ (Sl.lit _ _ [.int .i64 ((out.length : Int)), .int .i64 ((out.length : Int) + 1)] 2 rfl (by decide)) (by rintro b ⟨rfl⟩; exact HK4.out.chg.size) (by first | omega | (simp only [List.length_append, List.length_singleton]; omega))).mono ?_; rintro e w5 ⟨h5, rfl, hk5⟩; have HK5 := Lib.hid hk5; clear hk5)
    | (go_at_call 29; refine (addN_anyS HK3.out (tmN 7 (n + 86400)) rfl rfl (by first | omega | (simp only [List.length_append, List.length_singleton]; omega))).mono ?_; rintro e w4 ⟨h4, rfl, hk4⟩; have HK4 := Lib.hid hk4; clear hk4)
    | (go_at_call 29; refine (addN_anyS HK.out (tmN 8 n) rfl rfl (by first | omega | (simp only [List.length_append, List.length_singleton]; omega))).mono ?_; rintro e w3 ⟨h3, rfl, hk3⟩; have HK3 := Lib.hid hk3; clear hk3)
    | fail)
  go_ret
  refine ⟨_, _, _, _, !ok, _, rfl, HK5.out, ?_, ?_, ?_⟩
  · show stepA E (.on) ws out mod = _
    unfold stepA
    rw [HW.out]
    cases ok <;> simp
  · have := HL.out
    simp only [List.length_append, List.length_singleton]
    omega
  · have := HL.out
    split <;> omega

set_option maxRecDepth 100000 in
set_option maxHeartbeats 2000000 in
theorem other_larger (hr : SRec E N) (k0 : SSt w0 wS w g uv E h0 ws out mod false h) (he : EAt w0 uv E) (_hN : szL ws ≤ N) (hn : out.length + 3 * szL ws ≤ 900000000000) :
    Calls Tryz.prog 51 #[.pointer (some ⟨g, 0, none⟩), .string ⟨#[108, 97, 114, 103, 101, 114]⟩] w (SOut w0 wS g uv E h0 (out.length + 3 * szL ws + 3) (szL ws + 1) (askP E (keyP E N) (.counts 9 1) ws out mod)) := by
  have HK0 := Lib.hid k0
  have HR := Lib.hid hr
  have HE := Lib.hid he
  clear k0 hr he
  go_enter Tryz.func51, Tryz.ntmps51
  go_wp2_with (first
    | (go_at_call 86; refine (num_anyS HK0.out).mono ?_; rintro e w2 ⟨n, ok, ws', rfl, hks, hwp, hn1, hn2, hle⟩; have HW := Lib.hid hwp; have HL := Lib.hid (hle_of hle); have HK := Lib.hid (hks.cast (Bool.false_or _)); have hw1 : wrap64 (n + 1) = n + 1 := (by unfold wrap64; omega); have hw2 : wrap64 (n + 86400) = n + 86400 := (by unfold wrap64; omega); clear hks hwp hle)
    | (go_at_call 29; refine (addN_anyS HK.out (tmN 9 (n + 1)) rfl rfl (by first | omega | (simp only [List.length_append, List.length_singleton]; omega))).mono ?_; rintro e w3 ⟨h3, rfl, hk3⟩; have HK3 := Lib.hid hk3; clear hk3)
    | fail)
  go_ret
  refine ⟨_, _, _, _, !ok, _, rfl, HK3.out, ?_, ?_, ?_⟩
  · show stepA E (.counts 9 1) ws out mod = _
    unfold stepA
    rw [HW.out]
    cases ok <;> simp [putP]
  · have := HL.out
    simp only [List.length_append, List.length_singleton]
    omega
  · have := HL.out
    split <;> omega

set_option maxRecDepth 100000 in
set_option maxHeartbeats 2000000 in
theorem other_smaller (hr : SRec E N) (k0 : SSt w0 wS w g uv E h0 ws out mod false h) (he : EAt w0 uv E) (_hN : szL ws ≤ N) (hn : out.length + 3 * szL ws ≤ 900000000000) :
    Calls Tryz.prog 51 #[.pointer (some ⟨g, 0, none⟩), .string ⟨#[115, 109, 97, 108, 108, 101, 114]⟩] w (SOut w0 wS g uv E h0 (out.length + 3 * szL ws + 3) (szL ws + 1) (askP E (keyP E N) (.counts 10 0) ws out mod)) := by
  have HK0 := Lib.hid k0
  have HR := Lib.hid hr
  have HE := Lib.hid he
  clear k0 hr he
  go_enter Tryz.func51, Tryz.ntmps51
  go_wp2_with (first
    | (go_at_call 86; refine (num_anyS HK0.out).mono ?_; rintro e w2 ⟨n, ok, ws', rfl, hks, hwp, hn1, hn2, hle⟩; have HW := Lib.hid hwp; have HL := Lib.hid (hle_of hle); have HK := Lib.hid (hks.cast (Bool.false_or _)); have hw1 : wrap64 (n + 1) = n + 1 := (by unfold wrap64; omega); have hw2 : wrap64 (n + 86400) = n + 86400 := (by unfold wrap64; omega); clear hks hwp hle)
    | (go_at_call 29; refine (addN_anyS HK.out (tmN 10 n) rfl rfl (by first | omega | (simp only [List.length_append, List.length_singleton]; omega))).mono ?_; rintro e w3 ⟨h3, rfl, hk3⟩; have HK3 := Lib.hid hk3; clear hk3)
    | fail)
  go_ret
  refine ⟨_, _, _, _, !ok, _, rfl, HK3.out, ?_, ?_, ?_⟩
  · show stepA E (.counts 10 0) ws out mod = _
    unfold stepA
    rw [HW.out]
    cases ok <;> simp [putP]
  · have := HL.out
    simp only [List.length_append, List.length_singleton]
    omega
  · have := HL.out
    split <;> omega

set_option maxRecDepth 100000 in
set_option maxHeartbeats 2000000 in
theorem other_subject (hr : SRec E N) (k0 : SSt w0 wS w g uv E h0 ws out mod false h) (he : EAt w0 uv E) (_hN : szL ws ≤ N) (hn : out.length + 3 * szL ws ≤ 900000000000) :
    Calls Tryz.prog 51 #[.pointer (some ⟨g, 0, none⟩), .string ⟨#[115, 117, 98, 106, 101, 99, 116]⟩] w (SOut w0 wS g uv E h0 (out.length + 3 * szL ws + 3) (szL ws + 1) (askP E (keyP E N) (.head ⟨#[83, 117, 98, 106, 101, 99, 116]⟩) ws out mod)) := by
  have HK0 := Lib.hid k0
  have HR := Lib.hid hr
  have HE := Lib.hid he
  clear k0 hr he
  go_enter Tryz.func51, Tryz.ntmps51
  go_wp2_with (first
    | (go_at_call 87; refine (head_anyS HK0.out (⟨#[83, 117, 98, 106, 101, 99, 116]⟩) (by omega)).mono ?_; rintro e w3 ⟨s2, ok2, ws2, h3, rfl, hks, hwp, hle⟩; have HW2 := Lib.hid hwp; have HL2 := Lib.hid (hle_of hle); have HK3 := Lib.hid hks; clear hks hwp hle)
    | fail)
  go_ret
  refine ⟨_, _, _, _, !ok2, _, rfl, HK3.out.cast (Bool.false_or _), ?_, ?_, ?_⟩
  · show stepA E (.head _) ws out mod = _
    unfold stepA
    rw [HW2.out]
    cases ok2 <;> simp [putP]
  · have := HL2.out
    simp only [List.length_append, List.length_singleton]
    omega
  · have := HL2.out
    split <;> omega

set_option maxRecDepth 100000 in
set_option maxHeartbeats 2000000 in
theorem other_from (hr : SRec E N) (k0 : SSt w0 wS w g uv E h0 ws out mod false h) (he : EAt w0 uv E) (_hN : szL ws ≤ N) (hn : out.length + 3 * szL ws ≤ 900000000000) :
    Calls Tryz.prog 51 #[.pointer (some ⟨g, 0, none⟩), .string ⟨#[102, 114, 111, 109]⟩] w (SOut w0 wS g uv E h0 (out.length + 3 * szL ws + 3) (szL ws + 1) (askP E (keyP E N) (.head ⟨#[70, 114, 111, 109]⟩) ws out mod)) := by
  have HK0 := Lib.hid k0
  have HR := Lib.hid hr
  have HE := Lib.hid he
  clear k0 hr he
  go_enter Tryz.func51, Tryz.ntmps51
  go_wp2_with (first
    | (go_at_call 87; refine (head_anyS HK0.out (⟨#[70, 114, 111, 109]⟩) (by omega)).mono ?_; rintro e w3 ⟨s2, ok2, ws2, h3, rfl, hks, hwp, hle⟩; have HW2 := Lib.hid hwp; have HL2 := Lib.hid (hle_of hle); have HK3 := Lib.hid hks; clear hks hwp hle)
    | fail)
  go_ret
  refine ⟨_, _, _, _, !ok2, _, rfl, HK3.out.cast (Bool.false_or _), ?_, ?_, ?_⟩
  · show stepA E (.head _) ws out mod = _
    unfold stepA
    rw [HW2.out]
    cases ok2 <;> simp [putP]
  · have := HL2.out
    simp only [List.length_append, List.length_singleton]
    omega
  · have := HL2.out
    split <;> omega

set_option maxRecDepth 100000 in
set_option maxHeartbeats 2000000 in
theorem other_to (hr : SRec E N) (k0 : SSt w0 wS w g uv E h0 ws out mod false h) (he : EAt w0 uv E) (_hN : szL ws ≤ N) (hn : out.length + 3 * szL ws ≤ 900000000000) :
    Calls Tryz.prog 51 #[.pointer (some ⟨g, 0, none⟩), .string ⟨#[116, 111]⟩] w (SOut w0 wS g uv E h0 (out.length + 3 * szL ws + 3) (szL ws + 1) (askP E (keyP E N) (.head ⟨#[84, 111]⟩) ws out mod)) := by
  have HK0 := Lib.hid k0
  have HR := Lib.hid hr
  have HE := Lib.hid he
  clear k0 hr he
  go_enter Tryz.func51, Tryz.ntmps51
  go_wp2_with (first
    | (go_at_call 87; refine (head_anyS HK0.out (⟨#[84, 111]⟩) (by omega)).mono ?_; rintro e w3 ⟨s2, ok2, ws2, h3, rfl, hks, hwp, hle⟩; have HW2 := Lib.hid hwp; have HL2 := Lib.hid (hle_of hle); have HK3 := Lib.hid hks; clear hks hwp hle)
    | fail)
  go_ret
  refine ⟨_, _, _, _, !ok2, _, rfl, HK3.out.cast (Bool.false_or _), ?_, ?_, ?_⟩
  · show stepA E (.head _) ws out mod = _
    unfold stepA
    rw [HW2.out]
    cases ok2 <;> simp [putP]
  · have := HL2.out
    simp only [List.length_append, List.length_singleton]
    omega
  · have := HL2.out
    split <;> omega

set_option maxRecDepth 100000 in
set_option maxHeartbeats 2000000 in
theorem other_cc (hr : SRec E N) (k0 : SSt w0 wS w g uv E h0 ws out mod false h) (he : EAt w0 uv E) (_hN : szL ws ≤ N) (hn : out.length + 3 * szL ws ≤ 900000000000) :
    Calls Tryz.prog 51 #[.pointer (some ⟨g, 0, none⟩), .string ⟨#[99, 99]⟩] w (SOut w0 wS g uv E h0 (out.length + 3 * szL ws + 3) (szL ws + 1) (askP E (keyP E N) (.head ⟨#[67, 99]⟩) ws out mod)) := by
  have HK0 := Lib.hid k0
  have HR := Lib.hid hr
  have HE := Lib.hid he
  clear k0 hr he
  go_enter Tryz.func51, Tryz.ntmps51
  go_wp2_with (first
    | (go_at_call 87; refine (head_anyS HK0.out (⟨#[67, 99]⟩) (by omega)).mono ?_; rintro e w3 ⟨s2, ok2, ws2, h3, rfl, hks, hwp, hle⟩; have HW2 := Lib.hid hwp; have HL2 := Lib.hid (hle_of hle); have HK3 := Lib.hid hks; clear hks hwp hle)
    | fail)
  go_ret
  refine ⟨_, _, _, _, !ok2, _, rfl, HK3.out.cast (Bool.false_or _), ?_, ?_, ?_⟩
  · show stepA E (.head _) ws out mod = _
    unfold stepA
    rw [HW2.out]
    cases ok2 <;> simp [putP]
  · have := HL2.out
    simp only [List.length_append, List.length_singleton]
    omega
  · have := HL2.out
    split <;> omega

set_option maxRecDepth 100000 in
set_option maxHeartbeats 2000000 in
theorem other_header (hr : SRec E N) (k0 : SSt w0 wS w g uv E h0 ws out mod false h) (he : EAt w0 uv E) (_hN : szL ws ≤ N) (hn : out.length + 3 * szL ws ≤ 900000000000) :
    Calls Tryz.prog 51 #[.pointer (some ⟨g, 0, none⟩), .string ⟨#[104, 101, 97, 100, 101, 114]⟩] w (SOut w0 wS g uv E h0 (out.length + 3 * szL ws + 3) (szL ws + 1) (askP E (keyP E N) .header ws out mod)) := by
  have HK0 := Lib.hid k0
  have HR := Lib.hid hr
  have HE := Lib.hid he
  clear k0 hr he
  go_enter Tryz.func51, Tryz.ntmps51
  go_wp2_with (first
    | (go_at_call 84; refine (text_anyS HK0.out).mono ?_; rintro e w2 ⟨t, ok, ws', rfl, hks, hwp, hsz, hle⟩; have HW := Lib.hid hwp; have HL := Lib.hid (hle_of hle); have HK := Lib.hid (hks.cast (Bool.false_or _)); clear hks hwp hle)
    | (go_at_call 87; refine (head_anyS HK.out (t) (by omega)).mono ?_; rintro e w3 ⟨s2, ok2, ws2, h3, rfl, hks, hwp, hle⟩; have HW2 := Lib.hid hwp; have HL2 := Lib.hid (hle_of hle); have HK3 := Lib.hid hks; clear hks hwp hle)
    | fail)
  go_ret
  refine ⟨_, _, _, _, !ok || !ok2, _, rfl, HK3.out, ?_, ?_, ?_⟩
  · show stepA E .header ws out mod = _
    unfold stepA
    rw [HW.out]
    have h2 := HW2.out
    cases ok
    · simp
    · simp only [if_true]
      rw [h2]
      cases ok2 <;> simp [putP]
  · have := HL.out
    have := HL2.out
    simp only [List.length_append, List.length_singleton]
    omega
  · have := HL.out
    have := HL2.out
    split <;> omega

set_option maxRecDepth 100000 in
set_option maxHeartbeats 2000000 in
theorem other_body (hr : SRec E N) (k0 : SSt w0 wS w g uv E h0 ws out mod false h) (he : EAt w0 uv E) (_hN : szL ws ≤ N) (hn : out.length + 3 * szL ws ≤ 900000000000) :
    Calls Tryz.prog 51 #[.pointer (some ⟨g, 0, none⟩), .string ⟨#[98, 111, 100, 121]⟩] w (SOut w0 wS g uv E h0 (out.length + 3 * szL ws + 3) (szL ws + 1) (askP E (keyP E N) (.says 13) ws out mod)) := by
  have HK0 := Lib.hid k0
  have HR := Lib.hid hr
  have HE := Lib.hid he
  clear k0 hr he
  go_enter Tryz.func51, Tryz.ntmps51
  go_wp2_with (first
    | (go_at_call 84; refine (text_anyS HK0.out).mono ?_; rintro e w2 ⟨t, ok, ws', rfl, hks, hwp, hsz, hle⟩; have HW := Lib.hid hwp; have HL := Lib.hid (hle_of hle); have HK := Lib.hid (hks.cast (Bool.false_or _)); clear hks hwp hle)
    | (go_at_call 29; refine (addN_anyS HK.out (tmT 13 .empty t) rfl rfl (by first | omega | (simp only [List.length_append, List.length_singleton]; omega))).mono ?_; rintro e w3 ⟨h3, rfl, hk3⟩; have HK3 := Lib.hid hk3; clear hk3)
    | fail)
  go_ret
  refine ⟨_, _, _, _, !ok, _, rfl, HK3.out, ?_, ?_, ?_⟩
  · show stepA E (.says 13) ws out mod = _
    unfold stepA
    rw [HW.out]
    cases ok <;> simp [putP]
  · have := HL.out
    simp only [List.length_append, List.length_singleton]
    omega
  · have := HL.out
    split <;> omega

set_option maxRecDepth 100000 in
set_option maxHeartbeats 2000000 in
theorem other_text (hr : SRec E N) (k0 : SSt w0 wS w g uv E h0 ws out mod false h) (he : EAt w0 uv E) (_hN : szL ws ≤ N) (hn : out.length + 3 * szL ws ≤ 900000000000) :
    Calls Tryz.prog 51 #[.pointer (some ⟨g, 0, none⟩), .string ⟨#[116, 101, 120, 116]⟩] w (SOut w0 wS g uv E h0 (out.length + 3 * szL ws + 3) (szL ws + 1) (askP E (keyP E N) (.says 11) ws out mod)) := by
  have HK0 := Lib.hid k0
  have HR := Lib.hid hr
  have HE := Lib.hid he
  clear k0 hr he
  go_enter Tryz.func51, Tryz.ntmps51
  go_wp2_with (first
    | (go_at_call 84; refine (text_anyS HK0.out).mono ?_; rintro e w2 ⟨t, ok, ws', rfl, hks, hwp, hsz, hle⟩; have HW := Lib.hid hwp; have HL := Lib.hid (hle_of hle); have HK := Lib.hid (hks.cast (Bool.false_or _)); clear hks hwp hle)
    | (go_at_call 29; refine (addN_anyS HK.out (tmT 11 .empty t) rfl rfl (by first | omega | (simp only [List.length_append, List.length_singleton]; omega))).mono ?_; rintro e w3 ⟨h3, rfl, hk3⟩; have HK3 := Lib.hid hk3; clear hk3)
    | fail)
  go_ret
  refine ⟨_, _, _, _, !ok, _, rfl, HK3.out, ?_, ?_, ?_⟩
  · show stepA E (.says 11) ws out mod = _
    unfold stepA
    rw [HW.out]
    cases ok <;> simp [putP]
  · have := HL.out
    simp only [List.length_append, List.length_singleton]
    omega
  · have := HL.out
    split <;> omega

set_option maxRecDepth 100000 in
set_option maxHeartbeats 2000000 in
theorem other_uid (hr : SRec E N) (k0 : SSt w0 wS w g uv E h0 ws out mod false h) (he : EAt w0 uv E) (_hN : szL ws ≤ N) (hn : out.length + 3 * szL ws ≤ 900000000000) :
    Calls Tryz.prog 51 #[.pointer (some ⟨g, 0, none⟩), .string ⟨#[117, 105, 100]⟩] w (SOut w0 wS g uv E h0 (out.length + 3 * szL ws + 3) (szL ws + 1) (askP E (keyP E N) .uid ws out mod)) := by
  have HK0 := Lib.hid k0
  have HR := Lib.hid hr
  have HE := Lib.hid he
  clear k0 hr he
  go_enter Tryz.func51, Tryz.ntmps51
  go_wp2_with (first
    | (go_at_call 84; refine (text_anyS HK0.out).mono ?_; rintro e w2 ⟨t, ok, ws', rfl, hks, hwp, hsz, hle⟩; have HW := Lib.hid hwp; have HL := Lib.hid (hle_of hle); have HK := Lib.hid (hks.cast (Bool.false_or _)); clear hks hwp hle)
    | (go_at_call 88; refine (uidset_anyS HK.out HE.out t (by omega) (by omega)).mono ?_; rintro e w3 ⟨h3, rfl, hks⟩; have HK3 := Lib.hid hks; clear hks)
    | fail)
  go_ret
  refine ⟨_, _, _, _, _, _, rfl, HK3.out, ?_, ?_, ?_⟩
  · show stepA E .uid ws out mod = _
    unfold stepA
    rw [HW.out]
    cases ok
    · simp
    · by_cases hz : (readL t.data.toList E.star).2 = 0 <;> simp [putP, hz]
  · have := HL.out
    simp only [List.length_append, List.length_singleton]
    omega
  · have := HL.out
    split <;> omega

set_option maxRecDepth 100000 in
set_option maxHeartbeats 2000000 in
theorem other_modseq (hr : SRec E N) (k0 : SSt w0 wS w g uv E h0 ws out mod false h) (he : EAt w0 uv E) (_hN : szL ws ≤ N) (hn : out.length + 3 * szL ws ≤ 900000000000) :
    Calls Tryz.prog 51 #[.pointer (some ⟨g, 0, none⟩), .string ⟨#[109, 111, 100, 115, 101, 113]⟩] w (SOut w0 wS g uv E h0 (out.length + 3 * szL ws + 3) (szL ws + 1) (askP E (keyP E N) .modseq ws out mod)) := by
  have HK0 := Lib.hid k0
  have HR := Lib.hid hr
  have HE := Lib.hid he
  have HKM := Lib.hid (k0.trans (k0.at_.setMod true))
  obtain ⟨e5, f5⟩ : w.cell? ⟨g, 5, none⟩ = some (.bool mod) ∧ w.frozen? ⟨g, 5, none⟩ = false := by
    obtain ⟨_, _, _, _, _, _, _, _, _, _, e5, _, ef, _⟩ := k0.at_.cells
    exact ⟨e5, ef 5 (by omega)⟩
  clear k0 hr he
  go_enter Tryz.func51, Tryz.ntmps51
  go_wp2_with (first
    | (go_at_call 86; refine (num_anyS HKM.out).mono ?_; rintro e w2 ⟨n, ok, ws', rfl, hks, hwp, hn1, hn2, hle⟩; have HW := Lib.hid hwp; have HL := Lib.hid (hle_of hle); have HK := Lib.hid (hks.cast (Bool.false_or _)); have hw1 : wrap64 (n + 1) = n + 1 := (by unfold wrap64; omega); have hw2 : wrap64 (n + 86400) = n + 86400 := (by unfold wrap64; omega); clear hks hwp hle)
    | (go_at_call 29; refine (addN_anyS HK.out (tmN 15 n) rfl rfl (by first | omega | (simp only [List.length_append, List.length_singleton]; omega))).mono ?_; rintro e w3 ⟨h3, rfl, hk3⟩; have HK3 := Lib.hid hk3; clear hk3)
    | fail)
  go_ret
  refine ⟨_, _, _, _, !ok, _, rfl, HK3.out, ?_, ?_, ?_⟩
  · show stepA E (.modseq) ws out mod = _
    unfold stepA
    rw [HW.out]
    cases ok <;> simp [putP]
  · have := HL.out
    simp only [List.length_append, List.length_singleton]
    omega
  · have := HL.out
    split <;> omega

set_option maxRecDepth 100000 in
set_option maxHeartbeats 2000000 in
theorem other_not (hr : SRec E N) (k0 : SSt w0 wS w g uv E h0 ws out mod false h) (he : EAt w0 uv E) (hN : szL ws ≤ N) (hn : out.length + 3 * szL ws ≤ 900000000000) :
    Calls Tryz.prog 51 #[.pointer (some ⟨g, 0, none⟩), .string ⟨#[110, 111, 116]⟩] w (SOut w0 wS g uv E h0 (out.length + 3 * szL ws + 3) (szL ws + 1) (askP E (keyP E N) .not ws out mod)) := by
  have HK0 := Lib.hid k0
  have HR := Lib.hid hr
  have HE := Lib.hid he
  clear k0 hr he
  go_enter Tryz.func51, Tryz.ntmps51
  go_wp2_with (first
    | (go_at_call 28; refine (HR.out _ _ _ _ _ _ _ _ _ _ HE.out HK0.out (by omega) (by omega)).mono ?_; rintro e w2 ⟨k2, ws2, out2, mod2, bad2, h2, rfl, hk, hres, hb, hsz⟩; have HK2 := Lib.hid hk; have HRES2 := Lib.hid hres; have HBD2 := Lib.hid hb; have HSZ2 := Lib.hid hsz; clear hk hres hb hsz)
    | (go_at_call 49; refine (not_anyS HK2.out k2 (by have := HBD2.out; omega)).mono ?_; rintro e w3 ⟨h3, rfl, hks⟩; have HK3 := Lib.hid hks; clear hks)
    | fail)
  go_ret
  have h1 := HRES2.out
  have h2 := HBD2.out
  have h3 := HSZ2.out
  refine ⟨_, _, _, _, bad2, _, rfl, HK3.out, ?_, ?_, by omega⟩
  · show notP (keyP E N ws out mod) = _
    rw [h1]
    cases bad2 <;> simp [notP, putP]
  · simp only [List.length_append, List.length_singleton]
    omega

set_option maxRecDepth 100000 in
set_option maxHeartbeats 2000000 in
theorem other_or (hr : SRec E N) (k0 : SSt w0 wS w g uv E h0 ws out mod false h) (he : EAt w0 uv E) (hN : szL ws ≤ N) (hn : out.length + 3 * szL ws ≤ 900000000000) :
    Calls Tryz.prog 51 #[.pointer (some ⟨g, 0, none⟩), .string ⟨#[111, 114]⟩] w (SOut w0 wS g uv E h0 (out.length + 3 * szL ws + 3) (szL ws + 1) (askP E (keyP E N) .or ws out mod)) := by
  have HK0 := Lib.hid k0
  have HR := Lib.hid hr
  have HE := Lib.hid he
  clear k0 hr he
  go_enter Tryz.func51, Tryz.ntmps51
  go_wp2_with (first
    | (go_at_call 28; refine (HR.out _ _ _ _ _ _ _ _ _ _ HE.out HK0.out (by omega) (by omega)).mono ?_; rintro e w2 ⟨k2, ws2, out2, mod2, bad2, h2, rfl, hk, hres, hb, hsz⟩; have HK2 := Lib.hid hk; have HRES2 := Lib.hid hres; have HBD2 := Lib.hid hb; have HSZ2 := Lib.hid hsz; obtain ⟨_, _, _, _, _, _, _, _, _, _, _, d6, _, _⟩ := hk.at_.cells; cases bad2; clear hk hres hb hsz)
    | (go_at_call 28; refine (HR.out _ _ _ _ _ _ _ _ _ _ HE.out HK2.out (by have := HSZ2.out; simp at this; omega) (by have := HBD2.out; omega)).mono ?_; rintro e w4 ⟨k4, ws4, out4, mod4, bad4, h4, rfl, hk, hres, hb, hsz⟩; have HK4 := Lib.hid hk; have HRES4 := Lib.hid hres; have HBD4 := Lib.hid hb; have HSZ4 := Lib.hid hsz; clear hk hres hb hsz)
    | (go_at_call 29; refine (add_anyS (HK4.out.below ((Below.refl _ _).alloc (Nat.le_refl _) _)) (tmK 2 [k2, k4]) _ _ _ ⟨none, Sl.nil _ _ _⟩ (Sl.lit _ _ [.int .i64 (k2), .int .i64 (k4)] 2 rfl (by decide)) (by rintro b ⟨rfl⟩; exact HK4.out.chg.size) (by first | (have := HBD2.out; have := HBD4.out; omega) | (simp only [List.length_append, List.length_singleton]; omega))).mono ?_; rintro e w5 ⟨h5, rfl, hk5⟩; have HK5 := Lib.hid hk5; clear hk5)
    | fail)
  · go_ret
    have h1 := HRES2.out
    have h2 := HBD2.out
    have h3 := HSZ2.out
    have h4 := HRES4.out
    have h5 := HBD4.out
    have h6 := HSZ4.out
    simp only [Bool.false_eq_true, if_false] at h1 h3
    refine ⟨_, _, _, _, bad4, _, rfl, HK5.out, ?_, ?_, by omega⟩
    · show orP (keyP E N) ws out mod = _
      cases bad4
      · simp only [Bool.false_eq_true, if_false] at h4
        simp [orP, h1, h4, putP]
      · simp only [if_true] at h4
        simp [orP, h1, h4]
    · simp only [List.length_append, List.length_singleton]
      omega
  · go_ret
    have h1 := HRES2.out
    have h2 := HBD2.out
    have h3 := HSZ2.out
    simp only [if_true] at h1 h3
    refine ⟨_, _, _, _, true, _, rfl, HK2.out, ?_, by omega, by simp only [if_true]; omega⟩
    show orP (keyP E N) ws out mod = _
    simp [orP, h1]

/-- A word that is no key. -/
theorem other_bad (k0 : SSt w0 wS w g uv E h0 ws out mod false h) (t : ByteArray) (hne0 : (t.toList == [97, 108, 108]) = false) (hne1 : (t.toList == [98, 101, 102, 111, 114, 101]) = false) (hne2 : (t.toList == [115, 105, 110, 99, 101]) = false) (hne3 : (t.toList == [111, 110]) = false) (hne4 : (t.toList == [108, 97, 114, 103, 101, 114]) = false) (hne5 : (t.toList == [115, 109, 97, 108, 108, 101, 114]) = false) (hne6 : (t.toList == [115, 117, 98, 106, 101, 99, 116]) = false) (hne7 : (t.toList == [102, 114, 111, 109]) = false) (hne8 : (t.toList == [116, 111]) = false) (hne9 : (t.toList == [99, 99]) = false) (hne10 : (t.toList == [104, 101, 97, 100, 101, 114]) = false) (hne11 : (t.toList == [98, 111, 100, 121]) = false) (hne12 : (t.toList == [116, 101, 120, 116]) = false) (hne13 : (t.toList == [117, 105, 100]) = false) (hne14 : (t.toList == [109, 111, 100, 115, 101, 113]) = false) (hne15 : (t.toList == [110, 111, 116]) = false) (hne16 : (t.toList == [111, 114]) = false) :
    Calls Tryz.prog 51 #[.pointer (some ⟨g, 0, none⟩), .string t] w (SOut w0 wS g uv E h0 (out.length + 3 * szL ws + 3) (szL ws + 1) none) := by
  have HKB := Lib.hid (k0.trans (k0.at_.setBad true))
  obtain ⟨e6, f6⟩ : w.cell? ⟨g, 6, none⟩ = some (.bool false) ∧ w.frozen? ⟨g, 6, none⟩ = false := by
    obtain ⟨_, _, _, _, _, _, _, _, _, _, _, e6, ef, _⟩ := k0.at_.cells
    exact ⟨e6, ef 6 (by omega)⟩
  clear k0
  go_enter Tryz.func51, Tryz.ntmps51
  go_wp2
  go_ret
  exact ⟨_, _, _, _, true, _, rfl, HKB.out, rfl, by omega, by simp⟩
end

end Go.Proofs.YtnfabgbidkddhaaGreatDoor

namespace Go.Proofs.YtnfabgbidkddhaaGreatDoor
open Go.RowKit

/-- The flags' words and the keywords'. -/
def keys12 : List (List UInt8) := flagNames ++ flagNames.map (fun k => 117 :: 110 :: k) ++ [[107, 101, 121, 119, 111, 114, 100], [117, 110, 107, 101, 121, 119, 111, 114, 100]]
def keys6 : List (List UInt8) := flagNames ++ [[107, 101, 121, 119, 111, 114, 100]]
/-- The others. -/
def keys17 : List (List UInt8) := [[97, 108, 108], [98, 101, 102, 111, 114, 101], [115, 105, 110, 99, 101], [111, 110], [108, 97, 114, 103, 101, 114], [115, 109, 97, 108, 108, 101, 114], [115, 117, 98, 106, 101, 99, 116], [102, 114, 111, 109], [116, 111], [99, 99], [104, 101, 97, 100, 101, 114], [98, 111, 100, 121], [116, 101, 120, 116], [117, 105, 100], [109, 111, 100, 115, 101, 113], [110, 111, 116], [111, 114]]
theorem keys_all : ∀ p ∈ askTab, p.1.data.toList ∈ keys12 ∨ p.1.data.toList ∈ keys17 := by decide +kernel
theorem keys_un : ∀ k ∈ keys6, k ∈ keys12 ∧ 117 :: 110 :: k ∈ keys12 := by decide +kernel
theorem askOf_none (t : ByteArray) (h1 : t.data.toList ∉ keys12) (h2 : t.data.toList ∉ keys17) : askOf t = none := by
  unfold askOf getS
  rw [Option.map_eq_none_iff, List.find?_eq_none]
  intro p hp e
  have e : p.1 = t := by simpa using e
  subst e
  rcases keys_all p hp with h | h
  · exact h1 h
  · exact h2 h
theorem toListD (t : ByteArray) : t.toList = t.data.toList := ByteArray.toList_eq t
theorem beq_no {a l : List UInt8} {K : List (List UInt8)} (h : a ∉ K) (hl : l ∈ K) : (a == l) = false := by
  rw [beq_eq_false_iff_ne]
  rintro rfl
  exact h hl
theorem un_no {T : ByteArray} (h12 : T.data.toList ∉ keys12) (hu : ((T.extract 0 2).toList == [117, 110]) = true) : (T.extract 2 T.size).toList ∉ keys6 := by
  intro h
  obtain ⟨_, h2⟩ := keys_un _ h
  apply h12
  have e1 : (T.extract 0 2).toList = T.data.toList.take 2 := by
    rw [toListD]
    simp
  have e2 : (T.extract 2 T.size).toList = T.data.toList.drop 2 := by
    rw [toListD]
    simp
    rw [List.take_of_length_le]
    simp
  rw [e1, beq_iff_eq] at hu
  rw [e2] at h2
  have e3 := List.take_append_drop 2 T.data.toList
  rw [hu] at e3
  rw [← e3]
  exact h2
theorem no6 {T : ByteArray} (h12 : T.data.toList ∉ keys12) : T.toList ∉ keys6 := by
  rw [toListD]
  exact fun h => h12 (keys_un _ h).1
theorem keys_big : ∀ k ∈ keys12, 97 ≤ (k.headD 0).toNat := by decide +kernel
theorem no48 {T : ByteArray} (h0 : 0 < T.size) (h : (T[0].toNat : Int) < 48) : T.data.toList ∉ keys12 := by
  intro hk
  have h1 := keys_big _ hk
  obtain ⟨⟨l⟩⟩ := T
  cases l with
  | nil => exact absurd h0 (by decide)
  | cons c r =>
    have h2 : ((c.toNat : Nat) : Int) < 48 := h
    have h3 : 97 ≤ c.toNat := h1
    omega
theorem SOut.weaken {w0 w w' : World} {g : Nat} {uv : Value} {E : CEnv} {h : Hn} {bound bound' sz sz' : Nat} {res : Res} {e : Ending} (k : SOut w0 w g uv E h bound sz res e w') (hb : bound ≤ bound') (hs : sz ≤ sz') : SOut w0 w g uv E h bound' sz' res e w' := by
  obtain ⟨k, ws', out', mod', bad', h', h1, h2, h3, h4, h5⟩ := k
  exact ⟨k, ws', out', mod', bad', h', h1, h2, h3, by omega, by omega⟩

section
variable {w0 wS w : World} {g : Nat} {uv : Value} {E : CEnv} {ws : List WT} {out : Out} {mod : Bool} {h0 h : Hn} {N : Nat}

/-- What a word's key asks. -/
def askR (E : CEnv) (N : Nat) (t : ByteArray) (ws : List WT) (out : Out) (mod : Bool) : Res := match askOf t with
  | none => none
  | some a => askP E (keyP E N) a ws out mod
theorem askR_of {t : ByteArray} {a : Ask} (h : askOf t = some a) : askR E N t ws out mod = askP E (keyP E N) a ws out mod := by
  unfold askR
  rw [h]
theorem keyP_cons (E : CEnv) (N : Nat) (k : Int) (t : ByteArray) (kids ts : List WT) (out : Out) (mod : Bool) : keyP E (N + 1) (.mk k t kids :: ts) out mod = if k = 3 then listP N (keyP E N) kids ts out mod
    else if k ≠ 1 then none
    else if isPlace t = true then placeP E t ts out mod
    else askR E N (lowS t) ts out mod := by
  rw [keyP]
  rfl
theorem askR_empty (E : CEnv) (N : Nat) (ts : List WT) (out : Out) (mod : Bool) : askR E N (lowS ByteArray.empty) ts out mod = none := by
  unfold askR
  rw [askOf_none _ (by decide +kernel) (by decide +kernel)]

theorem other_anyS (hr : SRec E N) (k0 : SSt w0 wS w g uv E h0 ws out mod false h) (he : EAt w0 uv E) (hN : szL ws ≤ N) (hn : out.length + 3 * szL ws ≤ 900000000000) (t : ByteArray) (h12 : t.data.toList ∉ keys12) :
    Calls Tryz.prog 51 #[.pointer (some ⟨g, 0, none⟩), .string t] w (SOut w0 wS g uv E h0 (out.length + 3 * szL ws + 3) (szL ws + 1) (askR E N t ws out mod)) := by
  by_cases h17 : t.data.toList ∈ keys17
  · simp only [keys17, List.mem_cons, List.not_mem_nil, or_false] at h17
    rcases h17 with e | e | e | e | e | e | e | e | e | e | e | e | e | e | e | e | e
    all_goals
      have ht := of_dataL t _ e
      subst ht
      clear e h12
    · rw [askR_of (a := .all) (by kernel_rfl)]
      exact other_all hr k0 he hN hn
    · rw [askR_of (a := .time 7) (by kernel_rfl)]
      exact other_before hr k0 he hN hn
    · rw [askR_of (a := .time 8) (by kernel_rfl)]
      exact other_since hr k0 he hN hn
    · rw [askR_of (a := .on) (by kernel_rfl)]
      exact other_on hr k0 he hN hn
    · rw [askR_of (a := .counts 9 1) (by kernel_rfl)]
      exact other_larger hr k0 he hN hn
    · rw [askR_of (a := .counts 10 0) (by kernel_rfl)]
      exact other_smaller hr k0 he hN hn
    · rw [askR_of (a := .head ⟨#[83, 117, 98, 106, 101, 99, 116]⟩) (by kernel_rfl)]
      exact other_subject hr k0 he hN hn
    · rw [askR_of (a := .head ⟨#[70, 114, 111, 109]⟩) (by kernel_rfl)]
      exact other_from hr k0 he hN hn
    · rw [askR_of (a := .head ⟨#[84, 111]⟩) (by kernel_rfl)]
      exact other_to hr k0 he hN hn
    · rw [askR_of (a := .head ⟨#[67, 99]⟩) (by kernel_rfl)]
      exact other_cc hr k0 he hN hn
    · rw [askR_of (a := .header) (by kernel_rfl)]
      exact other_header hr k0 he hN hn
    · rw [askR_of (a := .says 13) (by kernel_rfl)]
      exact other_body hr k0 he hN hn
    · rw [askR_of (a := .says 11) (by kernel_rfl)]
      exact other_text hr k0 he hN hn
    · rw [askR_of (a := .uid) (by kernel_rfl)]
      exact other_uid hr k0 he hN hn
    · rw [askR_of (a := .modseq) (by kernel_rfl)]
      exact other_modseq hr k0 he hN hn
    · rw [askR_of (a := .not) (by kernel_rfl)]
      exact other_not hr k0 he hN hn
    · rw [askR_of (a := .or) (by kernel_rfl)]
      exact other_or hr k0 he hN hn
  · have ha : askR E N t ws out mod = none := by
      unfold askR
      rw [askOf_none t h12 h17]
    rw [ha]
    rw [← toListD] at h17
    exact other_bad k0 t (beq_no h17 (by decide)) (beq_no h17 (by decide)) (beq_no h17 (by decide)) (beq_no h17 (by decide)) (beq_no h17 (by decide)) (beq_no h17 (by decide)) (beq_no h17 (by decide)) (beq_no h17 (by decide)) (beq_no h17 (by decide)) (beq_no h17 (by decide)) (beq_no h17 (by decide)) (beq_no h17 (by decide)) (beq_no h17 (by decide)) (beq_no h17 (by decide)) (beq_no h17 (by decide)) (beq_no h17 (by decide)) (beq_no h17 (by decide))
end

end Go.Proofs.YtnfabgbidkddhaaGreatDoor

namespace Go.Proofs.YtnfabgbidkddhaaGreatDoor

def orM (mod : Bool) (x : Int × List WT × Out × Bool) : Int × List WT × Out × Bool := (x.1, x.2.1, x.2.2.1, mod || x.2.2.2)
def orW (mod : Bool) (x : Int × Out × Bool) : Int × Out × Bool := (x.1, x.2.1, mod || x.2.2)
def ModOk (f : List WT → Out → Bool → Res) : Prop := ∀ ws out mod, f ws out mod = (f ws out false).map (orM mod)

theorem putP_mod (t : Tm) (ws : List WT) (out : Out) (mod : Bool) : putP t ws out mod = (putP t ws out false).map (orM mod) := by simp [putP, orM]
theorem notP_mod (r : Res) (mod : Bool) : notP (r.map (orM mod)) = (notP r).map (orM mod) := by
  cases r with
  | none => rfl
  | some x =>
    obtain ⟨k, ws, out, m⟩ := x
    simp [notP, putP, orM]
theorem stepA_mod (E : CEnv) : ∀ (a : Ask) (ws : List WT) (out : Out) (mod : Bool), stepA E a ws out mod = (stepA E a ws out false).map (orM mod)
  | .all, ws, out, mod => putP_mod _ _ _ _
  | .keyword, ws, out, mod => by
    unfold stepA
    cases wordP ws with
    | none => rfl
    | some x =>
      simp only
      split
      · exact putP_mod _ _ _ _
      · rfl
  | .on, ws, out, mod => by
    unfold stepA
    cases dayP ws with
    | none => rfl
    | some x => simp [orM]
  | .header, ws, out, mod => by
    unfold stepA
    cases wordP ws with
    | none => rfl
    | some x =>
      simp only
      cases wordP x.2 with
      | none => rfl
      | some y => exact putP_mod _ _ _ _
  | .uid, ws, out, mod => by
    unfold stepA
    cases wordP ws with
    | none => rfl
    | some x =>
      simp only
      split
      · exact putP_mod _ _ _ _
      · rfl
  | .modseq, ws, out, mod => by
    unfold stepA
    cases numP ws with
    | none => rfl
    | some x => simp [putP, orM]
  | .time k, ws, out, mod => by
    unfold stepA
    cases dayP ws with
    | none => rfl
    | some x => exact putP_mod _ _ _ _
  | .counts k m, ws, out, mod => by
    unfold stepA
    cases numP ws with
    | none => rfl
    | some x => exact putP_mod _ _ _ _
  | .says k, ws, out, mod => by
    unfold stepA
    cases wordP ws with
    | none => rfl
    | some x => exact putP_mod _ _ _ _
  | .head n, ws, out, mod => by
    unfold stepA
    cases wordP ws with
    | none => rfl
    | some x => exact putP_mod _ _ _ _
  | .has k, ws, out, mod => putP_mod _ _ _ _
  | .un a, ws, out, mod => by
    show notP (stepA E a ws out mod) = (notP (stepA E a ws out false)).map (orM mod)
    rw [stepA_mod E a ws out mod, notP_mod]
  | .not, _, _, _ => rfl
  | .or, _, _, _ => rfl
theorem placeP_mod (E : CEnv) (t : ByteArray) (ws : List WT) (out : Out) (mod : Bool) : placeP E t ws out mod = (placeP E t ws out false).map (orM mod) := by
  unfold placeP
  split
  · exact putP_mod _ _ _ _
  · rfl
theorem wholeP_mod {f : List WT → Out → Bool → Res} (hf : ModOk f) : ∀ (n : Nat) (ws : List WT) (out : Out) (mod : Bool) (kids : List Int), wholeP f n ws out mod kids = (wholeP f n ws out false kids).map (orW mod)
  | n, [], out, mod, kids => by
    cases n <;> (unfold wholeP; split <;> simp [orW])
  | 0, t :: ts, out, mod, kids => by
    unfold wholeP
    rfl
  | n + 1, t :: ts, out, mod, kids => by
    unfold wholeP
    rw [hf (t :: ts) out mod]
    cases f (t :: ts) out false with
    | none => rfl
    | some x =>
      obtain ⟨k, ws', out', m⟩ := x
      show wholeP f n ws' out' (mod || m) (kids ++ [k]) = (wholeP f n ws' out' m (kids ++ [k])).map (orW mod)
      rw [wholeP_mod hf n ws' out' (mod || m), wholeP_mod hf n ws' out' m]
      cases wholeP f n ws' out' false (kids ++ [k]) with
      | none => rfl
      | some y => simp [orW, Bool.or_assoc]
theorem orP_mod {f : List WT → Out → Bool → Res} (hf : ModOk f) : ModOk (orP f) := by
  intro ws out mod
  unfold orP
  rw [hf ws out mod]
  cases f ws out false with
  | none => rfl
  | some x =>
    obtain ⟨a, ws1, out1, m1⟩ := x
    simp only [Option.map_some, orM]
    rw [hf ws1 out1 (mod || m1), hf ws1 out1 m1]
    cases f ws1 out1 false with
    | none => rfl
    | some y => simp [putP, orM, Bool.or_assoc]
theorem askP_mod (E : CEnv) {f : List WT → Out → Bool → Res} (hf : ModOk f) (a : Ask) : ModOk (askP E f a) := by
  intro ws out mod
  cases a with
  | not =>
    show notP (f ws out mod) = (notP (f ws out false)).map (orM mod)
    rw [hf ws out mod, notP_mod]
  | or => exact orP_mod hf ws out mod
  | _ => exact stepA_mod E _ ws out mod
theorem listP_mod {f : List WT → Out → Bool → Res} (hf : ModOk f) (n : Nat) (kids ws : List WT) (out : Out) (mod : Bool) : listP n f kids ws out mod = (listP n f kids ws out false).map (orM mod) := by
  unfold listP
  rw [wholeP_mod hf n kids out mod]
  cases wholeP f n kids out false [] with
  | none => rfl
  | some x => simp [orM, orW]
theorem keyP_mod (E : CEnv) : ∀ n, ModOk (keyP E n)
  | 0 => fun _ _ _ => rfl
  | n + 1 => by
    intro ws out mod
    cases ws with
    | nil => rfl
    | cons t ts =>
      obtain ⟨k, t, kids⟩ := t
      unfold keyP
      split
      · exact listP_mod (keyP_mod E n) n kids ts out mod
      · split
        · rfl
        · split
          · exact placeP_mod E t ts out mod
          · cases askOf (lowS t) with
            | none => rfl
            | some a => exact askP_mod E (keyP_mod E n) a ts out mod

end Go.Proofs.YtnfabgbidkddhaaGreatDoor

namespace Go.Proofs.YtnfabgbidkddhaaGreatDoor
open Go.RowKit
attribute [local go_sem ↓] Go.wp_at_zero Go.wp_at_succ

section
variable {w0 wS w w2 w' : World} {g g2 : Nat} {uv : Value} {E : CEnv} {ws ws' ws2 : List WT} {out out2 : Out} {mod mod2 bad bad2 : Bool} {h0 h h2 : Hn}

/-- Another search, of the same terms. -/
theorem SAt.second (s : SAt w0 w g uv E ws out mod bad h) {fv : Value} (hfv : w.cell? ⟨g, 2, none⟩ = some fv) {wv : Value} (hw : WsAt w0 wv ws') (hok : okL ws') :
    SAt w0 (w.alloc (.cells #[wv, .int .i64 0, fv, .int .i64 E.box, uv, .bool false, .bool false] 67)) w.heap.size uv E ws' out false false h := by
  have s2 := s.below ((Below.refl w.heap.size w).alloc (Nat.le_refl _) (.cells #[wv, .int .i64 0, fv, .int .i64 E.box, uv, .bool false, .bool false] 67))
  obtain ⟨wv0, fv0, xs, pre, hg, hw0, hs, hx⟩ := s2.rd
  have hgl : g < w.heap.size := by
    obtain ⟨_, _, _, _, hg1, _⟩ := s.rd
    exact hg1.lt
  have e2 : fv0 = fv := by
    have h1 : _ = some fv0 := hg.cell 2
    have h3 := ((Below.refl w.heap.size w).alloc (Nat.le_refl _) (.cells #[wv, .int .i64 0, fv, .int .i64 E.box, uv, .bool false, .bool false] 67)).cell (p := ⟨g, 2, none⟩) hgl
    rw [hfv] at h3
    rw [h3] at h1
    injection h1 with h1
    exact h1.symm
  subst e2
  exact ⟨⟨wv, fv0, xs, [], Blk.new _ _ _, hw, hs, hx⟩, s2.bel, ⟨s.bel.size, s.lo.2⟩, hok, s2.fl⟩

/-- What another search has done. -/
theorem SSt.adopt (k : SSt w0 wS w g uv E h0 ws out mod bad h) (hb : Below w.heap.size w w2) (t : SSt w0 w2 w' g2 uv E h ws2 out2 mod2 bad2 h2) (hg2 : w.heap.size ≤ g2) {fv : Value} (hfv : w'.cell? ⟨g2, 2, none⟩ = some fv) :
    SSt w0 wS (w'.setCell ⟨g, 2, none⟩ fv) g uv E h0 ws out2 mod bad h2 ∧ w'.cell? ⟨g, 5, none⟩ = some (.bool mod) ∧ w'.cell? ⟨g, 6, none⟩ = some (.bool bad) ∧ (∀ i, i < 7 → w'.frozen? ⟨g, i, none⟩ = false) ∧ ∃ x, w'.cell? ⟨g, 2, none⟩ = some x := by
  obtain ⟨wv, fv0, xs, pre, hg, hw, hs, hx⟩ := k.at_.rd
  have hgl := hg.lt
  have hgW := (hg.below hb hgl).chg t.chg (by
    have := k.at_.ne
    simp only [List.mem_cons, Option.mem_toList, not_or]
    exact ⟨by omega, this⟩)
  obtain ⟨wv2, fv2, xs2, pre2, hg2', hw2, hs2, hx2⟩ := t.at_.rd
  have e2 : fv2 = fv := by
    have h1 : _ = some fv2 := hg2'.cell 2
    rw [hfv] at h1
    injection h1 with h1
    exact h1.symm
  subst e2
  have hn2 : h2.b ≠ some g := fun e => hs2.ne_blk hgW (by decide) g e rfl
  have hch1 : Chg [g] w' (w'.setCell ⟨g, 2, none⟩ fv2) := (Chg.refl _ w').set (p := ⟨g, 2, none⟩) (.inl (by simp)) fv2
  have hsk : SKeep h2.f w' (w'.setCell ⟨g, 2, none⟩ fv2) := SKeep.of_chg hch1 fun i hi => by
    rw [List.mem_singleton.1 hi]
    exact ⟨_, _, hgW, by decide, by decide⟩
  have hc2 : Chg (g :: h.b.toList) w w' := (Chg.of_below hb (g :: h.b.toList)).trans t.chg fun i hi => by
    simp only [List.mem_cons, Option.mem_toList] at hi ⊢
    rcases hi with hi | hi
    · exact .inr (by omega)
    · exact .inl (.inr hi)
  have hc3 : Chg (g :: h.b.toList) w (w'.setCell ⟨g, 2, none⟩ fv2) := hc2.set (p := ⟨g, 2, none⟩) (.inl (by simp)) fv2
  refine ⟨⟨⟨⟨wv, fv2, xs2, pre, hgW.set 2 fv2, hw, hs2.far (p := ⟨g, 2, none⟩) hn2 _, OutAt.keep hsk _ _ hx2⟩, t.at_.bel.trans (hch1.below t.at_.bel.size fun i hi => ?_), ⟨k.at_.lo.1, t.at_.lo.2⟩, k.at_.ok, fun b hb2 => Nat.lt_of_lt_of_le (t.at_.fl b hb2) hch1.size⟩, k.chg.trans hc3 fun i hi => ?_, ?_, fun b hf => ?_⟩, hgW.cell 5, hgW.cell 6, fun i _ => hgW.frozen i, _, hgW.cell 2⟩
  · rw [List.mem_singleton.1 hi]
    exact k.at_.lo.1
  · simp only [List.mem_cons, Option.mem_toList] at hi ⊢
    rcases hi with hi | hi
    · exact .inl (.inl hi)
    · rcases k.new with h1 | ⟨b, h1, h2⟩
      · exact .inl (.inr (by rw [← h1]; exact hi))
      · rw [h1] at hi
        injection hi with hi
        exact .inr (by omega)
  · rcases t.new with h1 | ⟨b, h1, h3⟩
    · rw [h1]
      exact k.new
    · exact .inr ⟨b, h1, Nat.le_trans k.chg.size (Nat.le_trans hb.size h3)⟩
  · rcases t.fnew b hf with h1 | h1
    · exact k.fnew b h1
    · exact .inr (Nat.le_trans k.chg.size (Nat.le_trans hb.size h1))

set_option maxRecDepth 100000 in
set_option maxHeartbeats 4000000 in
theorem list_anyS {N : Nat} (hr : SRec E N) (k0 : SSt w0 wS w g uv E h0 ws out mod false h) (he : EAt w0 uv E) (kids : List WT) (v : Value) (hv : WsAt w0 v kids) (hok : okL kids) (hN : szL kids ≤ N) (hn : out.length + 3 * szL kids ≤ 900000000000) :
    Calls Tryz.prog 46 #[.pointer (some ⟨g, 0, none⟩), v] w (SOut w0 wS g uv E h0 (out.length + 3 * szL kids + 1 + 3 * szL ws) (szL ws + 1) (listP N (keyP E N) kids ws out mod)) := by
  obtain ⟨A, c, rfl, _, _⟩ := hv.form
  have HR := Lib.hid hr
  have HE := Lib.hid he
  have HV := Lib.hid hv
  have HOK := Lib.hid hok
  have HK0 := Lib.hid k0
  obtain ⟨e6, f6, hgl⟩ : w.cell? ⟨g, 6, none⟩ = some (.bool false) ∧ w.frozen? ⟨g, 6, none⟩ = false ∧ g < w.heap.size := by
    obtain ⟨_, _, _, _, _, _, _, _, _, _, _, e6, ef, hgl⟩ := k0.at_.cells
    exact ⟨e6, ef 6 (by omega), hgl⟩
  obtain ⟨Au, cu, huv, _, _⟩ := he.uids.form
  generalize hU : E.uids.length = U at huv
  subst huv
  -- the search behind the first test
  have hst : ∃ b0, b0 = decide (kids.length = 0) := ⟨_, rfl⟩
  obtain ⟨b0, hb0⟩ := hst
  have HB0 := Lib.hid hb0
  have hW : ∃ W, (if b0 = true then w.setCell ⟨g, 6, none⟩ (.bool true) else w) = W := ⟨_, rfl⟩
  obtain ⟨W, hWe⟩ := hW
  have k1 : SSt w0 wS W g (.slice Au U cu) E h0 ws out mod b0 h := by
    rw [← hWe]
    cases b0 with
    | true => exact k0.trans (k0.at_.setBad true)
    | false => exact k0
  generalize hL : kids.length = L at hb0
  have HL := Lib.hid hL
  have hdr : Below W.heap.size W W.drew := ⟨rfl, rfl, rfl, Nat.le_refl _, fun _ _ => rfl⟩
  have sd := k1.at_.below hdr
  obtain ⟨Af, cf, e2, e3, e4, hgW⟩ : ∃ Af cf, W.cell? ⟨g, 2, none⟩ = some (.slice Af out.length cf) ∧ W.cell? ⟨g, 3, none⟩ = some (.int .i64 E.box) ∧ W.cell? ⟨g, 4, none⟩ = some (.slice Au U cu) ∧ g < W.heap.size := by
    obtain ⟨_, Af, cf, _, _, _, _, e2, e3, e4, _, _, _, hgW⟩ := k1.at_.cells
    exact ⟨Af, cf, e2, e3, e4, hgW⟩
  have d2' : W.drew.cell? ⟨g, 2, none⟩ = some (.slice Af out.length cf) := e2
  have hall := all_anyS hr ((sd.second d2' hv hok).refl) he (Nat.le_trans sd.bel.size ((Below.refl _ _).alloc (Nat.le_refl _) _).size) hN hn
  have HK1 := Lib.hid k1
  have HBW := Lib.hid (show ∀ c : Obj, Below W.heap.size W (W.drew.alloc c) from fun c => belowD hdr ((Below.refl _ _).alloc (Nat.le_refl _) c))
  have hsz : W.drew.heap.size = W.heap.size := rfl
  rw [HL.out, hsz] at hall
  clear hsz
  generalize hnn : out.length = n at e2 hall
  have HNN := Lib.hid hnn
  clear hr he hv hok k0 k1 sd hL d2' hdr hnn
  have hLL : (b0 = true ∧ L = 0) ∨ (b0 = false ∧ L ≠ 0) := by
    rw [hb0]
    by_cases h : L = 0
    · exact .inl ⟨by simp [h], h⟩
    · exact .inr ⟨by simp [h], h⟩
  have hc0 : ((L : Int) == 0) = b0 := by
    rcases hLL with ⟨rfl, h⟩ | ⟨rfl, h⟩
    · simpa using h
    · simpa using h
  clear hb0 hLL
  cases b0
  · have hWe : w = W := by simpa using hWe
    subst hWe
    go_enter Tryz.func46, Tryz.ntmps46
    go_upto_region 3 with (fail)
    go_region_held3 (fun W => W.cell? ⟨g, 2, none⟩ = some (.slice Af n cf) ∧ W.cell? ⟨g, 3, none⟩ = some (.int .i64 E.box) ∧ W.cell? ⟨g, 4, none⟩ = some (.slice Au U cu)) (go_keep) (fail)
    all_goals
      go_wp2_with (first
        | (go_at_call 20; refine hall.mono ?_; rintro e w5 ⟨k, wsx, out2, mod2, bad2, h2, rfl, hk, hres, hb⟩; obtain ⟨_, _, _, _, _, _, _, t2, _, _, t5, t6, _, _⟩ := hk.at_.cells; obtain ⟨hA, q5, q6, qf, q2v, q2⟩ := HK1.out.adopt (HBW.out _) hk (Nat.le_refl _) t2; have hB := fun b => hA.trans (hA.at_.setMod b); have hC := fun b b' => (hB b).trans ((hB b).at_.setBad b'); have HC := Lib.hid hC; have HRES := Lib.hid hres; have HBD := Lib.hid hb; have f2 := qf 2 (by omega); have f5 := qf 5 (by omega); have f6' := qf 6 (by omega); clear hk hres hb hall hA hB hC qf; cases mod)
        | fail)
    all_goals
      go_ret
      have h1 := HRES.out
      have h2 := HBD.out
      have h3 := HNN.out
      refine ⟨_, _, _, _, _, _, rfl, HC.out _ _, ?_, by omega, by split <;> omega⟩
      have hb := HB0.out
      have hne : kids ≠ [] := by
        rintro rfl
        simp at hb
      have h1 := h1 hne
      unfold listP
      rw [wholeP_mod (keyP_mod E N), h1]
      cases bad2 <;> simp [orW]
  · have hWe : w.setCell ⟨g, 6, none⟩ (.bool true) = W := by simpa using hWe
    have HWE := Lib.hid hWe
    clear hWe
    go_enter Tryz.func46, Tryz.ntmps46
    go_upto_region 3 with (fail)
    rw [HWE.out]
    go_region_held3 (fun W => W.cell? ⟨g, 2, none⟩ = some (.slice Af n cf) ∧ W.cell? ⟨g, 3, none⟩ = some (.int .i64 E.box) ∧ W.cell? ⟨g, 4, none⟩ = some (.slice Au U cu)) (go_keep) (fail)
    all_goals
      go_wp2_with (first
        | (go_at_call 20; refine hall.mono ?_; rintro e w5 ⟨k, wsx, out2, mod2, bad2, h2, rfl, hk, hres, hb⟩; obtain ⟨_, _, _, _, _, _, _, t2, _, _, t5, t6, _, _⟩ := hk.at_.cells; obtain ⟨hA, q5, q6, qf, q2v, q2⟩ := HK1.out.adopt (HBW.out _) hk (Nat.le_refl _) t2; have hB := fun b => hA.trans (hA.at_.setMod b); have hC := fun b b' => (hB b).trans ((hB b).at_.setBad b'); have HC := Lib.hid hC; have HRES := Lib.hid hres; have HBD := Lib.hid hb; have f2 := qf 2 (by omega); have f5 := qf 5 (by omega); have f6' := qf 6 (by omega); clear hk hres hb hall hA hB hC qf; cases mod)
        | fail)
    all_goals
      go_ret
      have h1 := HRES.out
      have h2 := HBD.out
      have h3 := HNN.out
      refine ⟨_, _, _, _, _, _, rfl, HC.out _ _, ?_, by omega, by split <;> omega⟩
      have hb := HB0.out
      unfold listP
      have hnil : kids = [] := by simpa using hb
      subst hnil
      rw [wholeP_nil]
      simp
end

end Go.Proofs.YtnfabgbidkddhaaGreatDoor

namespace Go.Proofs.YtnfabgbidkddhaaGreatDoor
open Go.Lib

theorem lowB_two (c : UInt8) : (¬ (65 ≤ c.toNat ∧ c.toNat ≤ 90) ∧ lowB c = c) ∨ ((65 ≤ c.toNat ∧ c.toNat ≤ 90) ∧ (lowB c).toNat = c.toNat + 32) := by
  unfold lowB
  by_cases h : 65 ≤ c ∧ c ≤ 90
  · rw [if_pos h]
    have h1 : 65 ≤ c.toNat := UInt8.le_iff_toNat_le.1 h.1
    have h2 : c.toNat ≤ 90 := UInt8.le_iff_toNat_le.1 h.2
    refine .inr ⟨⟨h1, h2⟩, ?_⟩
    rw [UInt8.toNat_add]
    show (c.toNat + 32) % 256 = _
    omega
  · rw [if_neg h]
    refine .inl ⟨fun h' => h ⟨UInt8.le_iff_toNat_le.2 h'.1, UInt8.le_iff_toNat_le.2 h'.2⟩, rfl⟩
theorem lowB_is (c d : UInt8) (hd : d.toNat < 65) : lowB c = d ↔ c = d := by
  rcases lowB_two c with ⟨_, h⟩ | ⟨h1, h2⟩
  · rw [h]
  · constructor
    · intro e
      rw [e] at h2
      omega
    · intro e
      rw [e] at h1
      omega
theorem numGo_low : ∀ (l : List UInt8) (n : Int), numGo (lowL l) n = numGo l n
  | [], _ => rfl
  | c :: r, n => by
    show (if ((lowB c).toNat : Int) < 48 ∨ 57 < ((lowB c).toNat : Int) then none else numGo (lowL r) (n * 10 + (((lowB c).toNat : Int) - 48))) = (if (c.toNat : Int) < 48 ∨ 57 < (c.toNat : Int) then none else numGo r (n * 10 + ((c.toNat : Int) - 48)))
    rcases lowB_two c with ⟨_, h⟩ | ⟨h1, h2⟩
    · rw [h, numGo_low r]
    · rw [if_pos (by omega), if_pos (by omega)]
theorem lowL_len (l : List UInt8) : (lowL l).length = l.length := by simp [lowL]
theorem lowL_nil (l : List UInt8) : lowL l = [] ↔ l = [] := by simp [lowL]
theorem numberL_low (l : List UInt8) : numberL (lowL l) = numberL l := by
  have hh : (lowL l).head? = some 48 ↔ l.head? = some 48 := by
    cases l with
    | nil => exact Iff.rfl
    | cons c r =>
      show some (lowB c) = some 48 ↔ some c = some 48
      rw [Option.some.injEq, Option.some.injEq]
      exact lowB_is c 48 (by decide)
  unfold numberL
  simp only [lowL_nil, lowL_len, hh, numGo_low]
theorem boundL_low (l : List UInt8) (star : Int) : boundL (lowL l) star = boundL l star := by
  have hs : lowL l = [42] ↔ l = [42] := by
    match l with
    | [] => exact Iff.rfl
    | [c] =>
      show [lowB c] = [42] ↔ [c] = [42]
      rw [List.cons.injEq, List.cons.injEq, lowB_is c 42 (by decide)]
    | a :: b :: r => exact ⟨(fun h => by simp [lowL] at h), (fun h => by simp at h)⟩
  unfold boundL
  simp only [hs, numberL_low]
theorem index_low (c : UInt8) (hc : c.toNat < 65) : ∀ l : List UInt8, index (lowL l) [c] = index l [c]
  | [] => rfl
  | b :: r => by
    show index (lowB b :: lowL r) [c] = _
    rw [index_one_cons, index_one_cons, index_low c hc r]
    simp only [lowB_is b c hc]
theorem cutL_low (l : List UInt8) : cutL (lowL l) = (lowL (cutL l).1, lowL (cutL l).2) := by
  unfold cutL Lib.cut
  rw [index_low 58 (by decide)]
  split <;> simp [lowL, List.map_take, List.map_drop]
theorem pieces_low : ∀ l : List UInt8, piecesC 44 (lowL l) = (piecesC 44 l).map lowL
  | [] => rfl
  | b :: r => by
    show piecesC 44 (lowB b :: lowL r) = _
    unfold piecesC
    rw [pieces_low r]
    simp only [lowB_is b 44 (by decide)]
    by_cases h : b = 44
    · rw [if_pos h, if_pos h]
      rfl
    · rw [if_neg h, if_neg h]
      cases piecesC 44 r with
      | nil => rfl
      | cons p ps => rfl
theorem partL_low (l : List UInt8) (star : Int) : partL (lowL l) star = partL l star := by
  unfold partL
  rw [cutL_low]
  simp only [boundL_low]
theorem readGo_low (star : Int) : ∀ (ps : List (List UInt8)) (acc : List Rg), readGo star (ps.map lowL) acc = readGo star ps acc
  | [], _ => rfl
  | p :: ps, acc => by
    show readGo star (lowL p :: ps.map lowL) acc = _
    unfold readGo
    rw [partL_low]
    simp only [readGo_low star ps]
theorem readL_low (l : List UInt8) (star : Int) : readL (lowL l) star = readL l star := by
  unfold readL
  rw [lowL_len, pieces_low, readGo_low]
theorem lowS_list (t : ByteArray) : (lowS t).data.toList = lowL t.data.toList := by simp [lowS]
theorem placeP_low (E : CEnv) (t : ByteArray) (ws : List WT) (out : Out) (mod : Bool) : placeP E (lowS t) ws out mod = placeP E t ws out mod := by
  unfold placeP
  rw [lowS_list, readL_low]
theorem isPlace_low (t : ByteArray) : isPlace (lowS t) = isPlace t := by
  unfold isPlace
  rw [lowS_list]
  cases t.data.toList with
  | nil => rfl
  | cons c r =>
    show (lowB c == 42 || (decide (48 ≤ lowB c) && decide (lowB c ≤ 57))) = (c == 42 || (decide (48 ≤ c) && decide (c ≤ 57)))
    have h1 : (lowB c == 42) = (c == 42) := by
      rw [Bool.eq_iff_iff, beq_iff_eq, beq_iff_eq]
      exact lowB_is c 42 (by decide)
    rw [h1]
    rcases lowB_two c with ⟨_, h⟩ | ⟨h1, h2⟩
    · rw [h]
    · have a1 : decide (lowB c ≤ 57) = false := by
        rw [decide_eq_false_iff_not, UInt8.le_iff_toNat_le]
        show ¬ _ ≤ 57
        omega
      have a2 : decide (c ≤ 57) = false := by
        rw [decide_eq_false_iff_not, UInt8.le_iff_toNat_le]
        show ¬ _ ≤ 57
        omega
      rw [a1, a2]
      simp

end Go.Proofs.YtnfabgbidkddhaaGreatDoor
