/-
  The walks of crit's whole and list, of so many words.
-/
import Derived.Test.YtnfabgbidkddhaaGreatDoorCritRecM
namespace Go.Proofs.YtnfabgbidkddhaaGreatDoor
open Go.RowKit
attribute [local go_sem ↓] Go.wp_at_zero Go.wp_at_succ

theorem Tryz.infoInt : (Tryz.prog.info? 3).map (fun i => (i.zero, i.size, i.bytes)) = some (some (.int .i64 0), 1, 8) := by kernel_rfl

/-- What the loop over the keys keeps. -/
structure LSt (w0 w wr : World) (g ob mb : Nat) (uv : Value) (E : CEnv) (N : Nat) (res : Option (Int × Out × Bool)) (h : Hn) (B S : Nat) (o : Value) (kids : List Int) (hk : Option Nat) (wsj : List WT) (outj : Out) (modj : Bool) (hj : Hn) (j : Nat) : Prop where
  kst : KSt w0 w wr g ob mb uv E h wsj outj modj hj
  sl : Sl wr 3 1 o hk kids.length (intC kids)
  own : ∀ b, hk = some b → w.heap.size ≤ b ∧ ¬ hj.f b
  go : res = wholeP (keyP E N) j wsj outj modj kids
  fuel : szL wsj ≤ j ∧ j ≤ N
  bnd : outj.length + 3 * szL wsj ≤ B
  few : kids.length + szL wsj ≤ S

theorem wholeP_step (f : List WT → Out → Bool → Res) (n : Nat) (t : WT) (ts : List WT) (out : Out) (mod : Bool) (kids : List Int) : wholeP f (n + 1) (t :: ts) out mod kids = match f (t :: ts) out mod with
    | none => none
    | some (k, ws, out', mod') => wholeP f n ws out' mod' (kids ++ [k]) := by
  conv => lhs; unfold wholeP
  rfl
theorem wholeP_nil (f : List WT → Out → Bool → Res) (n : Nat) (out : Out) (mod : Bool) (kids : List Int) : wholeP f n [] out mod kids = if kids = [] then none else some ((out.length : Int), out ++ [tmK 1 kids], mod) := by
  cases n <;> unfold wholeP <;> rfl
theorem szW_pos : ∀ (t : WT), 0 < szW t
  | .mk _ _ l => by unfold szW; omega
theorem intC_snoc (l : List Int) (k : Int) : intC (l ++ [k]) = intC l ++ [.int .i64 k] := by simp [intC]

section
variable {w0 w wr w3 w4 : World} {g ob mb : Nat} {uv : Value} {E : CEnv} {N : Nat} {res : Option (Int × Out × Bool)} {h : Hn} {B S : Nat} {o : Value} {kids : List Int} {hk : Option Nat} {wsj : List WT} {outj : Out} {modj : Bool} {hj : Hn} {j : Nat}

theorem LSt.bad {t : WT} {ts : List WT} (p : LSt w0 w wr g ob mb uv E N res h B S o kids hk (t :: ts) outj modj hj j) (hn : keyP E N (t :: ts) outj modj = none) : res = none := by
  have h1 := p.go
  have h2 := p.fuel.1
  have h3 := szW_pos t
  simp only [szL] at h2
  cases j with
  | zero => omega
  | succ j =>
    rw [h1, wholeP_step, hn]
theorem LSt.push {t : WT} {ts : List WT} (p : LSt w0 w wr g ob mb uv E N res h B S o kids hk (t :: ts) outj modj hj j) {k : Int} {ws' : List WT} {out' : Out} {mod' : Bool} {h' : Hn}
    (kk : KSt w0 wr w3 g ob mb uv E hj ws' out' mod' h') (hres : keyP E N (t :: ts) outj modj = some (k, ws', out', mod')) (hb : out'.length + 3 * szL ws' ≤ outj.length + 3 * szL (t :: ts)) (hs : szL ws' + 1 ≤ szL (t :: ts))
    {v' : Value} {hk' : Option Nat} (hsl : Sl w4 3 1 v' hk' (kids.length + 1) (intC kids ++ [.int .i64 k])) (hc : Chg hk.toList w3 w4) (ho : hk' = hk ∨ ∃ b, hk' = some b ∧ w3.heap.size ≤ b) (hlow : w0.heap.size ≤ w.heap.size) :
    LSt w0 w w4 g ob mb uv E N res h B S v' (kids ++ [k]) hk' ws' out' mod' h' (j - 1) := by
  have h2 := p.fuel.1
  have h3 := szW_pos t
  have hst := p.kst.trans kk
  -- the numbers' block is none of the reader's
  have hsl3 := kk.ints p.kst.at_ p.sl
  have hnf : ∀ b, hk = some b → ¬ h'.f b := fun b hb hf => by
    rcases kk.fnew b hf with h1 | h1
    · exact (p.own b hb).2 h1
    · have := p.sl.lt b hb
      omega
  have hblk : ∀ b, hk = some b → ∃ cur, Blk w3 b 3 cur := fun b hb => hsl3.blkOf b hb
  have hkeep : SKeep h'.f w3 w4 := by
    intro b e cs hB he
    refine hc.block b hB.lt fun hm => ?_
    have hm : hk = some b := by simpa using hm
    rcases he with he | he
    · obtain ⟨cur, hB2⟩ := hblk b hm
      have := (hB.inj hB2).1
      rw [he] at this
      exact absurd this (by decide)
    · exact hnf b hm he.2
  have hap : ∀ k ∈ g :: ob :: mb :: h'.b.toList, k ∉ hk.toList := by
    intro k hk1 hk2
    have hk2 : hk = some k := by simpa using hk2
    obtain ⟨e, cs, hB, _, h5⟩ := hst.at_.own k hk1
    obtain ⟨cur, hB2⟩ := hblk k hk2
    exact h5 (hB.inj hB2).1
  have hat : RAt w0 w4 g ob mb uv E ws' out' mod' h' := by
    have s := hst.at_
    obtain ⟨wv, hg, hw⟩ := s.rd
    obtain ⟨ov, xs, hob, hs1, hx⟩ := s.ou
    refine ⟨⟨wv, hg.chg hc (hap g (by simp)), hw⟩, ⟨ov, xs, hob.chg hc (hap ob (by simp)), hs1.chg hc fun b hb => hap b (by simp [hb]), OutAt.keep hkeep _ _ hx⟩, s.mo.chg hc (hap mb (by simp)), s.bel.trans (hc.below s.bel.size fun b hb => ?_), s.lo, s.ok, fun b hb => Nat.lt_of_lt_of_le (s.fl b hb) hc.size⟩
    have hb : hk = some b := by simpa using hb
    exact Nat.le_trans hlow (p.own b hb).1
  simp only [szL] at h2 hb hs
  refine ⟨⟨hat, hst.chg.trans hc fun i hi => .inr ?_, hst.new, hst.fnew⟩, ?_, ?_, ?_, ⟨by omega, by have := p.fuel.2; omega⟩, by have := p.bnd; simp only [szL] at this; omega, ?_⟩
  · have hi : hk = some i := by simpa using hi
    exact (p.own i hi).1
  · rw [intC_snoc]
    simpa using hsl
  · intro b hb
    rcases ho with h1 | ⟨b', h1, h4⟩
    · rw [h1] at hb
      exact ⟨(p.own b hb).1, hnf b hb⟩
    · rw [h1] at hb
      injection hb with hb
      subst hb
      exact ⟨Nat.le_trans hst.chg.size h4, fun hf => by have := hst.at_.fl _ hf; omega⟩
  · rw [p.go]
    cases j with
    | zero => omega
    | succ j =>
      rw [wholeP_step, hres, Nat.add_sub_cancel]
  · have := p.few
    simp only [szL] at this
    simp
    omega
end

/-- What whole hands back. -/
def WOut (w0 w : World) (g ob mb : Nat) (uv : Value) (E : CEnv) (h : Hn) (bound : Nat) (res : Option (Int × Out × Bool)) (e : Ending) (w' : World) : Prop :=
  ∃ k ok ws' out' mod' h', e = .returned (.tuple #[.int .i64 k, .bool ok]) ∧ KSt w0 w w' g ob mb uv E h ws' out' mod' h' ∧ res = (if ok = true then some (k, out', mod') else none) ∧ out'.length ≤ bound

section
variable {w0 w w' : World} {g ob mb : Nat} {uv : Value} {E : CEnv} {ws : List WT} {out : Out} {mod : Bool} {h : Hn}

set_option maxRecDepth 100000 in
set_option maxHeartbeats 4000000 in
theorem whole_anyK {N : Nat} (hr : KeyRec E N) (s : RAt w0 w g ob mb uv E ws out mod h) (he : EAt w0 uv E) (hN : szL ws ≤ N) (hn : out.length + 3 * szL ws ≤ 900000000000) :
    Calls Tryz.prog 19 #[.pointer (some ⟨g, 0, none⟩)] w (WOut w0 w g ob mb uv E h (out.length + 3 * szL ws + 1) (wholeP (keyP E N) N ws out mod [])) := by
  obtain ⟨i0, hi, hz0, hz1, hz2⟩ := info_parts Tryz.infoInt
  obtain ⟨res, hres⟩ : ∃ res, wholeP (keyP E N) N ws out mod [] = res := ⟨_, rfl⟩
  rw [hres]
  have HP0 := Lib.hid (show LSt w0 w w g ob mb uv E N res h (out.length + 3 * szL ws) (szL ws) (.slice none 0 0) [] none ws out mod h N from
    ⟨s.refl, Sl.nil _ _ _, by simp, hres.symm, ⟨hN, Nat.le_refl _⟩, Nat.le_refl _, by simp⟩)
  have HR := Lib.hid hr
  have HE := Lib.hid he
  obtain ⟨bnd, hbnd⟩ : ∃ bnd, out.length + 3 * szL ws = bnd := ⟨_, rfl⟩
  obtain ⟨S, hS⟩ : ∃ S, szL ws = S := ⟨_, rfl⟩
  rw [hbnd] at hn HP0
  rw [hS] at HP0
  rw [hbnd]
  have hS2 : S ≤ 900000000000 := by omega
  have HL0 := Lib.hid s.bel.size
  clear hres s hr he hbnd hS hN
  go_enter Tryz.func19, Tryz.ntmps19
  go_wp2_with fail
  go_loopw [4] (fun o wr => ∃ (kids : List Int) (hk : Option Nat) (wsj : List WT) (outj : Out) (modj : Bool) (hj : Hn) (j : Nat), Hid (LSt w0 w wr g ob mb uv E N res h bnd S o kids hk wsj outj modj hj j)) (fun _ wr => leftAt w0 wr g)
  case atStart => exact ⟨_, _, _, _, _, _, _, HP0⟩
  case round =>
    obtain ⟨kids, hk, wsj, outj, modj, hj, j, HP⟩ := hrel
    obtain ⟨wv, hg, hw⟩ := HP.out.kst.at_.rd
    cases wsj with
    | nil =>
      obtain ⟨A, cap, rfl, _, _⟩ := hw.form
      have e0 : wr.cell? ⟨g, 0, none⟩ = some (.slice A 0 cap) := hg.cell 0
      have hov := over_anyC HP.out.kst 1 kids u4 hk HP.out.sl (fun b hb => (HP.out.own b hb).1) (by have := HP.out.bnd; omega)
      have hgo := HP.out.go
      rw [wholeP_nil] at hgo
      have hbd := HP.out.bnd
      have hfw := HP.out.few
      obtain ⟨Ao, co, hov1, _⟩ := HP.out.sl.form
      have HGO := Lib.hid hgo
      have HBD := Lib.hid hbd
      generalize hkl : kids.length = n at hov1 hfw
      have HKL := Lib.hid hkl
      subst hov1
      clear hgo hbd hg hw HP hkl HP0
      go_wp2_with (first
        | (go_at_call 27; refine hov.mono ?_; rintro e w5 ⟨h5, rfl, hk5⟩; have HK5 := Lib.hid hk5; clear hk5 hov)
        | fail)
      go_ret2
      have h1 := HGO.out
      have h2 := HBD.out
      have h3 := HKL.out
      refine ⟨_, _, _, _, _, _, rfl, HK5.out, ?_, ?_⟩
      · rw [h1]
        cases kids with
        | nil =>
          simp at h3
          subst h3
          simp
        | cons a b =>
          have : n ≠ 0 := by rw [← h3]; simp
          simp
          omega
      · simp only [List.length_append, List.length_cons, List.length_nil]
        simp only [szL] at h2
        omega
    | cons t ts =>
      obtain ⟨A, cap, rfl, _, _⟩ := hw.form
      have e0 : wr.cell? ⟨g, 0, none⟩ = some (.slice A (ts.length + 1) cap) := hg.cell 0
      have hkey := HR.out _ _ _ _ _ _ _ _ _ _ HE.out HP.out.kst.at_ (by have := HP.out.fuel; omega) (by have := HP.out.bnd; omega)
      have hslk := fun w3 ws' out' mod' h' (k : KSt w0 wr w3 g ob mb uv E hj ws' out' mod' h') => k.ints HP.out.kst.at_ HP.out.sl
      have hfw := HP.out.few
      have hlf := HP.out.kst.at_.left
      have hl0 : w0.heap.size ≤ w.heap.size := HL0.out
      generalize ts.length = L at e0
      have HLF := Lib.hid hlf
      clear hg hw hlf HP0
      go_wp2_with (first
        | (go_at_call 26; refine hkey.mono ?_; rintro e w3 ⟨k, ok, ws', out', mod', h', rfl, hkk, hres, hb, hsz⟩; have HS3 := Lib.hid (hslk _ _ _ _ _ hkk); have HK := Lib.hid hkk; have HRES := Lib.hid hres; have HBD := Lib.hid hb; have HSZ := Lib.hid hsz; clear hkk hres hb hsz hkey hslk; cases ok)
        | (at_builtin; refine wpList_append_slX rfl _ _ 23 rfl Tryz.underlying23 hi hz0 hz1 hz2 rfl (by decide) HS3.out rfl w3.heap.size rfl 1 1 rfl rfl ?_ ?_ ?_ ?_)
        | fail)
      · go_ret2
        have h1 := HRES.out
        have h2 := HBD.out
        have h3 := HP.out.bnd
        simp only [Bool.false_eq_true, if_false] at h1
        refine ⟨_, false, _, _, _, _, rfl, HP.out.kst.trans HK.out, ?_, ?_⟩
        · rw [HP.out.bad h1]
          simp
        · omega
      · simp [Value.oneCell']
      · unfold maxLen
        omega
      · omega
      · intro v' hk' w4 r1 r2 r3
        have h1 := HRES.out
        have h4 := HSZ.out
        simp only [if_true] at h1 h4
        have hst := HP.out.push HK.out h1 HBD.out h4 (by simpa using r1) r2 (by simpa using r3) HL0.out
        have HST := Lib.hid hst
        have hms : leftAt w0 w4 g < leftAt w0 wr g := by
          rw [HLF.out, hst.kst.at_.left]
          omega
        have HMS := Lib.hid hms
        clear hst r1 r2 r3 HS3 hms h1 h4
        go_wp2
        refine ⟨?_, HMS.out⟩
        first | exact ⟨_, _, _, _, _, _, _, HST⟩ | ((repeat apply Exists.intro); exact ⟨⟨_, _, _, _, _, _, _, HST⟩, rfl⟩)
end

end Go.Proofs.YtnfabgbidkddhaaGreatDoor
