/-
  The walks of pillarboxlaw17.within and apply.
-/
import Derived.Test.YtkgpflobbmagaaaReplayPlain
namespace Go.Proofs.Ytkgpflobbmagaaa
open Go.RowKit
attribute [local go_sem ↓] Go.wp_at_zero Go.wp_at_succ

theorem decide_mem_take (l : List Int) (n : Int) (k : Nat) (hk : k < l.length) (h : n ∉ l.take k) (hne : ¬ l[k] = n) : n ∉ l.take (k + 1) := by
  rw [List.take_succ_eq_append_getElem hk, List.mem_append]
  simp only [List.mem_singleton]
  rintro (h1 | h1)
  · exact h h1
  · exact hne h1.symm

set_option maxHeartbeats 1000000 in
theorem within17_any (w : World) (v : Value) (m : Nat) (l : List Int) (n : Int) (hm : l.length = m) (hr : RdS w [] 1 v m (intsV l)) :
    Calls Try.prog 24 #[v, .int .i64 n] w fun e w' => e = .returned (.bool (decide (n ∈ l))) ∧ w = w' := by
  obtain ⟨A, cap, rfl, _, hcap⟩ := hr.form
  have hmb : m ≤ 9223372036854775807 := by
    unfold maxLen at hcap
    omega
  have HR := Lib.hid hr
  have HM := Lib.hid hm
  obtain ⟨ans, hans⟩ : ∃ ans, decide (n ∈ l) = ans := ⟨_, rfl⟩
  rw [hans]
  have HANS := Lib.hid hans
  clear hr hm hans
  go_enter Try.func24, Try.ntmps24
  go_wp2
  go_loop [5] (fun i => ∃ k : Nat, k ≤ m ∧ i = .int .i64 k ∧ Hid (n ∉ l.take k)) (fun i => m - (intOf i).toNat)
  case atStart => exact ⟨0, Nat.zero_le _, rfl, Lib.hid (by simp)⟩
  case round =>
    obtain ⟨k, hk, rfl, HN⟩ := hrel
    by_cases hlt : k < m
    · have hke : k < l.length := by rw [HM.out]; exact hlt
      obtain ⟨b, off, cap2, hva, _, _, hbl, _, hat⟩ := HR.out.at_ (by omega)
      injection hva with hva1 _ hva3
      subst hva1
      subst hva3
      have d0 : w.cell? ⟨b, off + k, none⟩ = some (.int .i64 l[k]) := by
        have h1 := hat k (by omega)
        rw [h1]
        simp [intsV, hke]
      clear hat
      have HNX := Lib.hid (decide_mem_take l n k hke HN.out)
      have HIN : Hid (l[k] ∈ l) := Lib.hid (List.getElem_mem hke)
      generalize l[k] = y at d0 HNX HIN
      by_cases hy : y = n
      · have hyb : (y == n) = true := by simpa using hy
        have ht : ans = true := by rw [← HANS.out, decide_eq_true (hy ▸ HIN.out)]
        subst ht
        clear hy
        go_wp2
        go_ret
        exact ⟨rfl, rfl⟩
      · have hyb : (y == n) = false := by simpa using hy
        have HN2 := Lib.hid (HNX.out hy)
        clear hy
        go_wp2
        go_round
        case rel => exact ⟨k + 1, by omega, by go_num, HN2⟩
        case measure => simp [intOf]; omega
    · have hkm : k = m := by omega
      subst hkm
      have hf : ans = false := by
        rw [← HANS.out, decide_eq_false]
        have h1 := HN.out
        rw [List.take_of_length_le (by rw [HM.out]; exact Nat.le_refl _)] at h1
        exact h1
      subst hf
      go_wp2
      go_ret
      exact ⟨rfl, rfl⟩

/-- Sixteen numbers in a row. -/
def arr16 (th : Mods) : Array Value := ((List.range 16).map fun k => Value.int .i64 (th k)).toArray
theorem arr16_get (th : Mods) (k : Nat) (hk : k < 16) : (arr16 th)[k]? = some (.int .i64 (th k)) := by
  unfold arr16
  simp [hk]
def upd16 (th : Mods) (k : Nat) (c : Int) : Mods := fun j => if j = k then c else th j
theorem arr16_set (th : Mods) (k : Nat) (c : Int) (hk : k < 16) : (arr16 th).setIfInBounds k (.int .i64 c) = arr16 (upd16 th k c) := by
  refine Array.ext_getElem? fun i => ?_
  rw [Array.getElem?_setIfInBounds]
  by_cases hi : i < 16
  · rw [arr16_get _ i hi, arr16_get _ i hi]
    unfold upd16
    by_cases h : k = i
    · subst h
      simp [arr16, hk]
    · rw [if_neg h, if_neg (fun e => h e.symm)]
  · have h1 : (arr16 th)[i]? = none := by rw [Array.getElem?_eq_none]; simp [arr16]; omega
    have h2 : (arr16 (upd16 th k c))[i]? = none := by rw [Array.getElem?_eq_none]; simp [arr16]; omega
    rw [h1, h2, if_neg (by omega)]
theorem arr16_congr {a b : Mods} (h : ∀ k, k < 16 → a k = b k) : arr16 a = arr16 b := by
  unfold arr16
  congr 1
  exact List.map_congr_left fun k hk => by rw [h k (by simpa using hk)]

/-- Lists, to what there is. -/
def applyT (t : Told) (st : Int) (th : Mods) : Mods := fun k => if (k : Int) + 1 ∈ t.gone then 0 else if (k : Int) + 1 ∈ t.turned ∨ (k : Int) + 1 ∈ t.made then st else th k
def applyTo (t : Told) (st : Int) (th : Mods) (n : Nat) : Mods := fun k => if k < n then applyT t st th k else th k
theorem applyTo_succ (t : Told) (st : Int) (th : Mods) (n : Nat) (c : Int) (h : applyT t st th n = c) : upd16 (applyTo t st th n) n c = applyTo t st th (n + 1) := by
  funext k
  unfold upd16 applyTo
  by_cases h1 : k = n
  · subst h1
    rw [if_pos rfl, if_pos (by omega), h]
  · rw [if_neg h1]
    by_cases h2 : k < n
    · rw [if_pos h2, if_pos (by omega)]
    · rw [if_neg h2, if_neg (by omega)]
theorem applyTo_skip (t : Told) (st : Int) (th : Mods) (n : Nat) (h : applyT t st th n = th n) : applyTo t st th n = applyTo t st th (n + 1) := by
  funext k
  unfold applyTo
  by_cases h1 : k = n
  · subst h1
    rw [if_neg (by omega), if_pos (by omega), h]
  · by_cases h2 : k < n
    · rw [if_pos h2, if_pos (by omega)]
    · rw [if_neg h2, if_neg (by omega)]

/-- No object is in two lists; what was turned is there. -/
structure Fits (t : Told) (th : Mods) : Prop where
  one : ∀ k : Nat, k < 16 → (k : Int) + 1 ∈ t.made → (k : Int) + 1 ∉ t.turned ∧ (k : Int) + 1 ∉ t.gone
  two : ∀ k : Nat, k < 16 → (k : Int) + 1 ∈ t.turned → (k : Int) + 1 ∉ t.gone ∧ th k ≠ 0

/-- Memory in apply's loop. -/
structure ApRel (w wr : World) (m X : Nat) (c : Array Value) (th : Mods) : Prop where
  bM : Blk wr m 37 (arr16 th)
  bX : Blk wr X 46 c
  chg : Chg [m] w wr
  ne : m ≠ X
theorem ApRel.set {w wr : World} {m X : Nat} {c : Array Value} {th th' : Mods} (q : ApRel w wr m X c th) (k : Nat) (hk : k < 16) (x : Int) (h : upd16 th k x = th') : ApRel w (wr.setCell ⟨m, k, none⟩ (.int .i64 x)) m X c th' := by
  refine ⟨?_, q.bX.far (p := ⟨m, k, none⟩) (fun e => q.ne e.symm) _, q.chg.set (.inl (by simp)) _, q.ne⟩
  have h1 := q.bM.set k (.int .i64 x)
  rw [arr16_set th k x hk, h] at h1
  exact h1

/-- Three lists that read, in no block m. -/
structure RdM (w : World) (m : Nat) (t : Told) (A0 A1 A2 : Option Addr) (p0 p1 p2 : Nat) : Prop where
  r0 : RdS w [m] 1 (.slice A0 t.made.length p0) t.made.length (intsV t.made)
  r1 : RdS w [m] 1 (.slice A1 t.turned.length p1) t.turned.length (intsV t.turned)
  r2 : RdS w [m] 1 (.slice A2 t.gone.length p2) t.gone.length (intsV t.gone)
theorem RdM.chg {w w' : World} {m : Nat} {t : Told} {A0 A1 A2 : Option Addr} {p0 p1 p2 : Nat} (q : RdM w m t A0 A1 A2 p0 p1 p2) (h : Chg [m] w w') : RdM w' m t A0 A1 A2 p0 p1 p2 := ⟨q.r0.chg h, q.r1.chg h, q.r2.chg h⟩
theorem RdM.below {w w' : World} {m : Nat} {t : Told} {A0 A1 A2 : Option Addr} {p0 p1 p2 : Nat} (q : RdM w m t A0 A1 A2 p0 p1 p2) (h : Below w.heap.size w w') : RdM w' m t A0 A1 A2 p0 p1 p2 := ⟨q.r0.below h, q.r1.below h, q.r2.below h⟩
theorem RdM.alloc {w : World} {m : Nat} {t : Told} {A0 A1 A2 : Option Addr} {p0 p1 p2 : Nat} (q : RdM w m t A0 A1 A2 p0 p1 p2) (o : Obj) : RdM (w.alloc o) m t A0 A1 A2 p0 p1 p2 := q.below ((Below.refl _ _).alloc (Nat.le_refl _) o)
theorem Lists.readsM {w : World} {B m : Nat} {t : Told} {A0 A1 A2 : Option Addr} {p0 p1 p2 : Nat} (h : Lists w B t A0 A1 A2 p0 p1 p2) (hm : m < B) : RdM w m t A0 A1 A2 p0 p1 p2 := by
  obtain ⟨cv, hh, k0, k1, k2, hsl, ho⟩ := h
  have s0 := hsl 0 (by decide)
  have s1 := hsl 1 (by decide)
  have s2 := hsl 2 (by decide)
  rw [k0] at s0
  rw [k1] at s1
  rw [k2] at s2
  exact ⟨s0.reads [m] (fun b hb hm2 => by have := ho _ _ hb; simp at hm2; omega), s1.reads [m] (fun b hb hm2 => by have := ho _ _ hb; simp at hm2; omega), s2.reads [m] (fun b hb hm2 => by have := ho _ _ hb; simp at hm2; omega)⟩

set_option maxRecDepth 100000 in
set_option maxHeartbeats 4000000 in
theorem apply_any (w : World) (m : Nat) (th : Mods) (t : Told) (A0 A1 A2 : Option Addr) (p0 p1 p2 : Nat) (st : Int) (more first : Bool) (hB : Blk w m 37 (arr16 th)) (hr : RdM w m t A0 A1 A2 p0 p1 p2) (hf : Fits t th) :
    Calls Try.prog 23 #[.pointer (some ⟨m, 0, none⟩), .agg #[.slice A0 t.made.length p0, .slice A1 t.turned.length p1, .slice A2 t.gone.length p2, .int .i64 st, .bool more], .int .i64 st, .bool first] w fun e w' =>
      e = .returned (.bool true) ∧ Blk w' m 37 (arr16 (applyT t st th)) ∧ Chg [m] w w' := by
  generalize hn0 : t.made.length = n0
  generalize hn1 : t.turned.length = n1
  generalize hn2 : t.gone.length = n2
  have h0 := fun (k : Nat) (b : Bool) (hb : decide ((k : Int) + 1 ∈ t.made) = b) W (hw : Chg [m] w W) => hb ▸ within17_any W (.slice A0 n0 p0) n0 t.made ((k : Int) + 1) hn0 (hn0 ▸ (hr.r0.chg hw).sub (by simp))
  have h1 := fun (k : Nat) (b : Bool) (hb : decide ((k : Int) + 1 ∈ t.turned) = b) W (hw : Chg [m] w W) => hb ▸ within17_any W (.slice A1 n1 p1) n1 t.turned ((k : Int) + 1) hn1 (hn1 ▸ (hr.r1.chg hw).sub (by simp))
  have h2 := fun (k : Nat) (b : Bool) (hb : decide ((k : Int) + 1 ∈ t.gone) = b) W (hw : Chg [m] w W) => hb ▸ within17_any W (.slice A2 n2 p2) n2 t.gone ((k : Int) + 1) hn2 (hn2 ▸ (hr.r2.chg hw).sub (by simp))
  have hml := hB.lt
  have hst : ApRel w (w.alloc (.cells #[.slice A0 n0 p0, .slice A1 n1 p1, .slice A2 n2 p2, .int .i64 st, .bool more] 46)) m w.heap.size #[.slice A0 n0 p0, .slice A1 n1 p1, .slice A2 n2 p2, .int .i64 st, .bool more] (applyTo t st th 0) :=
    ⟨hB.alloc _, Blk.new _ _ _, (Chg.refl _ _).alloc _, by omega⟩
  have HST := Lib.hid hst
  have HF := Lib.hid hf
  have H0 := Lib.hid h0
  have H1 := Lib.hid h1
  have H2 := Lib.hid h2
  clear hst hf hr hB hn0 hn1 hn2 h0 h1 h2
  go_enter Try.func23, Try.ntmps23
  go_wp2
  go_loopw [9] (fun i wr => ∃ k : Nat, k ≤ 16 ∧ i = .int .i64 k ∧ Hid (ApRel w wr m w.heap.size #[.slice A0 n0 p0, .slice A1 n1 p1, .slice A2 n2 p2, .int .i64 st, .bool more] (applyTo t st th k))) (fun i _ => 16 - (intOf i).toNat)
  case atStart => exact ⟨0, by omega, rfl, HST⟩
  case round =>
    obtain ⟨k, hk, rfl, HU⟩ := hrel
    have hch := HU.out.chg
    have hsz := hch.size
    by_cases hlt : k < 16
    · have hXl := HU.out.bX.lt
      have hne1 : ¬ m = w.heap.size := HU.out.ne
      have hne2 : ¬ w.heap.size = m := fun e => hne1 e.symm
      have x0 : wr.cell? ⟨w.heap.size, 0, none⟩ = some (.slice A0 n0 p0) := HU.out.bX.cell 0
      have x1 : wr.cell? ⟨w.heap.size, 1, none⟩ = some (.slice A1 n1 p1) := HU.out.bX.cell 1
      have x2 : wr.cell? ⟨w.heap.size, 2, none⟩ = some (.slice A2 n2 p2) := HU.out.bX.cell 2
      have m0 : wr.cell? ⟨m, k, none⟩ = some (.int .i64 (th k)) := by
        rw [HU.out.bM.cell k, arr16_get _ k hlt]
        simp [applyTo]
      have f0 : wr.frozen? ⟨m, k, none⟩ = false := HU.out.bM.frozen k
      have HCH := Lib.hid hch
      clear hch
      by_cases c0 : (k : Int) + 1 ∈ t.made
      · obtain ⟨n1', n2'⟩ := HF.out.one k hlt c0
        have g0 := H0.out k true (decide_eq_true c0)
        have g1 := H1.out k false (decide_eq_false n1')
        have g2 := H2.out k false (decide_eq_false n2')
        have hup := applyTo_succ t st th k st (by unfold applyT; rw [if_neg n2', if_pos (.inr c0)])
        have HQ := Lib.hid (HU.out.set k hlt st hup)
        clear hup c0 n1' n2'
        go_wp2_with (first
          | (go_at_call 24; with_reducible refine (g0 _ HCH.out).mono ?_; rintro e w' ⟨rfl, rfl⟩; clear g0)
          | (go_at_call 24; with_reducible refine (g1 _ HQ.out.chg).mono ?_; rintro e w' ⟨rfl, rfl⟩; clear g1)
          | (go_at_call 24; with_reducible refine (g2 _ HQ.out.chg).mono ?_; rintro e w' ⟨rfl, rfl⟩; clear g2)
          | fail)
        refine ⟨?_, by simp [intOf]; omega⟩
        first | exact ⟨k + 1, by omega, by go_num, HQ⟩ | ((repeat apply Exists.intro); exact ⟨⟨k + 1, by omega, by go_num, HQ⟩, rfl⟩)
      · by_cases c1 : (k : Int) + 1 ∈ t.turned
        · obtain ⟨n2', hnz⟩ := HF.out.two k hlt c1
          have g0 := H0.out k false (decide_eq_false c0)
          have g1 := H1.out k true (decide_eq_true c1)
          have g2 := H2.out k false (decide_eq_false n2')
          have hup := applyTo_succ t st th k st (by unfold applyT; rw [if_neg n2', if_pos (.inl c1)])
          have HQ := Lib.hid (HU.out.set k hlt st hup)
          have hnz' : (th k == 0) = false := by simpa using hnz
          clear hup c0 c1 n2' hnz
          go_wp2_with (first
            | (go_at_call 24; with_reducible refine (g0 _ HCH.out).mono ?_; rintro e w' ⟨rfl, rfl⟩; clear g0)
            | (go_at_call 24; with_reducible refine (g1 _ HCH.out).mono ?_; rintro e w' ⟨rfl, rfl⟩; clear g1)
            | (go_at_call 24; with_reducible refine (g2 _ HQ.out.chg).mono ?_; rintro e w' ⟨rfl, rfl⟩; clear g2)
            | fail)
          refine ⟨?_, by simp [intOf]; omega⟩
          first | exact ⟨k + 1, by omega, by go_num, HQ⟩ | ((repeat apply Exists.intro); exact ⟨⟨k + 1, by omega, by go_num, HQ⟩, rfl⟩)
        · by_cases c2 : (k : Int) + 1 ∈ t.gone
          · have g0 := H0.out k false (decide_eq_false c0)
            have g1 := H1.out k false (decide_eq_false c1)
            have g2 := H2.out k true (decide_eq_true c2)
            have hup := applyTo_succ t st th k 0 (by unfold applyT; rw [if_pos c2])
            have HQ := Lib.hid (HU.out.set k hlt 0 hup)
            clear hup c0 c1 c2
            go_wp2_with (first
              | (go_at_call 24; with_reducible refine (g0 _ HCH.out).mono ?_; rintro e w' ⟨rfl, rfl⟩; clear g0)
              | (go_at_call 24; with_reducible refine (g1 _ HCH.out).mono ?_; rintro e w' ⟨rfl, rfl⟩; clear g1)
              | (go_at_call 24; with_reducible refine (g2 _ HCH.out).mono ?_; rintro e w' ⟨rfl, rfl⟩; clear g2)
              | fail)
            refine ⟨?_, by simp [intOf]; omega⟩
            first | exact ⟨k + 1, by omega, by go_num, HQ⟩ | ((repeat apply Exists.intro); exact ⟨⟨k + 1, by omega, by go_num, HQ⟩, rfl⟩)
          · have g0 := H0.out k false (decide_eq_false c0)
            have g1 := H1.out k false (decide_eq_false c1)
            have g2 := H2.out k false (decide_eq_false c2)
            have hup := applyTo_skip t st th k (by unfold applyT; rw [if_neg c2, if_neg (by simp [c0, c1])])
            have HQ : Hid (ApRel w wr m w.heap.size #[.slice A0 n0 p0, .slice A1 n1 p1, .slice A2 n2 p2, .int .i64 st, .bool more] (applyTo t st th (k + 1))) := Lib.hid (hup ▸ HU.out)
            clear hup c0 c1 c2
            go_wp2_with (first
              | (go_at_call 24; with_reducible refine (g0 _ HCH.out).mono ?_; rintro e w' ⟨rfl, rfl⟩; clear g0)
              | (go_at_call 24; with_reducible refine (g1 _ HCH.out).mono ?_; rintro e w' ⟨rfl, rfl⟩; clear g1)
              | (go_at_call 24; with_reducible refine (g2 _ HCH.out).mono ?_; rintro e w' ⟨rfl, rfl⟩; clear g2)
              | fail)
            refine ⟨?_, by simp [intOf]; omega⟩
            first | exact ⟨k + 1, by omega, by go_num, HQ⟩ | ((repeat apply Exists.intro); exact ⟨⟨k + 1, by omega, by go_num, HQ⟩, rfl⟩)
    · have hk16 : k = 16 := by omega
      subst hk16
      have hfin : arr16 (applyTo t st th 16) = arr16 (applyT t st th) := arr16_congr fun k hk => by unfold applyTo; rw [if_pos hk]
      have HFIN := Lib.hid hfin
      clear hfin
      go_wp2
      go_ret
      exact ⟨rfl, HFIN.out ▸ HU.out.bM, HU.out.chg⟩

end Go.Proofs.Ytkgpflobbmagaaa
