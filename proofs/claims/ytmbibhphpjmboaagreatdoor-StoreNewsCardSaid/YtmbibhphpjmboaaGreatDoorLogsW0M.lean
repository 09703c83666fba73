/-
  What the walk of pillarboxlaw18.StoreLogs calls: the store's Log, first of two lists, a number in a range.
-/
import Derived.Test.YtmbibhphpjmboaaGreatDoorGY
import Derived.Test.YtmbibhphpjmboaaGreatDoorGD
import Derived.Test.YtmbibhphpjmboaaGreatDoorGX
import Derived.Deep.QuietTactic
import Derived.BigQuiet
import Derived.Deep.DeepCutAuto
import Derived.Deep.CutBlock
namespace Go.Proofs.YtmbibhphpjmboaaGreatDoor
open Go.Shelf Go.RowKit
attribute [local go_sem ↓] Go.wp_at_zero Go.wp_at_succ

set_option maxRecDepth 100000 in
theorem storeLog_any (w : World) (g : Nat) (q : Lies) (x : Acc) (h : StoreAt w g q x) (hn : x.log.es.length ≤ 2199023255552) :
    Calls Tryz.prog 40 #[.pointer (some ⟨g, 0, none⟩)] w fun e w' => ∃ g2 h2, e = .returned (.pointer (some ⟨g2, 0, none⟩)) ∧ LogAt w' g2 h2 x.log ∧ Below w.heap.size w w' ∧ w.heap.size ≤ g2 ∧ ∀ b, h2 = some b → w.heap.size ≤ b := by
  have hc := copy_any w q.gl q.hl x.log h.log hn
  have c12 := h.cell12
  clear h
  go_enter Tryz.func40, Tryz.ntmps40
  go_wp2_with (first
    | (go_at_call 47; refine hc.mono ?_; rintro e w2 ⟨g2, h2, rfl, hl, hb, hg, hh⟩; have HL := Lib.hid hl; have HB := Lib.hid hb; have HG := Lib.hid hg; have HH := Lib.hid hh; clear hc hl hb hg hh)
    | fail)
  go_ret
  exact ⟨g2, h2, rfl, HL.out, HB.out, HG.out, HH.out⟩

set_option maxRecDepth 100000 in
theorem firstT_any (w : World) (v0 v1 : Value) (h0 h1 : Option Nat) (t : Told) (s0 : Sl w 3 1 v0 h0 t.made.length (t.made.map encI)) (s1 : Sl w 3 1 v1 h1 t.turned.length (t.turned.map encI)) :
    Calls Tryz.prog 43 #[v0, v1] w fun e w' => e = .returned (.int .i64 (firstT t)) ∧ w = w' := by
  obtain ⟨A0, c0, hv0, _, _⟩ := s0.form
  obtain ⟨A1, c1, hv1, _, _⟩ := s1.form
  subst hv0 hv1
  obtain ⟨made, turned, gone⟩ := t
  cases made with
  | cons i r =>
    obtain ⟨b, o, c, _, hv, _, _, _, hat⟩ := s0.at_ (by simp)
    have e1 := (Value.slice.inj hv).1
    subst e1
    have d0 : w.cell? ⟨b, o, none⟩ = some (.int .i64 i) := (hat 0 (by simp)).1
    obtain ⟨n, hn⟩ : ∃ n, r.length = n := ⟨_, rfl⟩
    simp only [List.length_cons, hn]
    have hz : (0 : Int) < ((n + 1 : Nat) : Int) := by omega
    clear hat hv s0 s1
    go_enter Tryz.func43, Tryz.ntmps43
    go_wp2_with fail
    go_ret
    exact ⟨rfl, rfl⟩
  | nil =>
    cases turned with
    | cons i r =>
      obtain ⟨b, o, c, _, hv, _, _, _, hat⟩ := s1.at_ (by simp)
      have e1 := (Value.slice.inj hv).1
      subst e1
      have d0 : w.cell? ⟨b, o, none⟩ = some (.int .i64 i) := (hat 0 (by simp)).1
      obtain ⟨n, hn⟩ : ∃ n, r.length = n := ⟨_, rfl⟩
      simp only [List.length_cons, List.length_nil, hn]
      have hz : (0 : Int) < ((n + 1 : Nat) : Int) := by omega
      clear hat hv s0 s1
      go_enter Tryz.func43, Tryz.ntmps43
      go_wp2_with fail
      go_ret
      exact ⟨rfl, rfl⟩
    | nil =>
      simp only [List.length_nil]
      clear s0 s1
      go_enter Tryz.func43, Tryz.ntmps43
      go_wp2_with fail
      go_ret
      exact ⟨rfl, rfl⟩

/-- A number in the one range of a number. -/
theorem inOne_any (w : World) (B : Nat) (a n : Int) (hB : Blk w B 89 #[.int .i64 a, .int .i64 a]) :
    Calls Tryz.prog 42 #[.slice (some ⟨B, 0, none⟩) 1 1, .int .i64 n] w fun e w' => e = .returned (.bool (decide (n = a))) ∧ w = w' := by
  have d0 : w.cell? ⟨B, 0, none⟩ = some (.int .i64 a) := hB.cell 0
  have d1 : w.cell? ⟨B, 1, none⟩ = some (.int .i64 a) := hB.cell 1
  clear hB
  by_cases h : n = a
  · subst h
    have hd : true = decide (n = n) := by simp
    rw [← hd]
    have hle : n ≤ n := Int.le_refl _
    clear hd
    go_enter Tryz.func42, Tryz.ntmps42
    go_wp2_with fail
    go_loop [5] (fun i => i = .int .i64 0) (fun _ => 0)
    case atStart => rfl
    case round =>
      subst hrel
      go_wp2_with fail
      go_ret
      exact ⟨rfl, rfl⟩
  · have hd : false = decide (n = a) := by simpa using h
    rw [← hd]
    clear hd
    go_enter Tryz.func42, Tryz.ntmps42
    go_wp2_with fail
    go_loop [5] (fun i => ∃ k : Nat, k ≤ 1 ∧ i = .int .i64 k) (fun i => 1 - (intOf i).toNat)
    case atStart => exact ⟨0, by omega, rfl⟩
    case round =>
      obtain ⟨k, hk, rfl⟩ := hrel
      rcases Nat.lt_or_ge k 1 with h1 | h1
      · obtain rfl : k = 0 := by omega
        rcases Int.lt_or_le n a with h2 | h2
        · have h3 : ¬ a ≤ n := by omega
          go_wp2_with fail
          refine ⟨?_, by simp [intOf]⟩
          first | exact ⟨1, by omega, by go_num⟩ | ((repeat apply Exists.intro); exact ⟨⟨1, by omega, by go_num⟩, rfl⟩)
        · have h3 : a ≤ n := h2
          have h4 : ¬ n ≤ a := by omega
          go_wp2_with fail
          refine ⟨?_, by simp [intOf]⟩
          first | exact ⟨1, by omega, by go_num⟩ | ((repeat apply Exists.intro); exact ⟨⟨1, by omega, by go_num⟩, rfl⟩)
      · obtain rfl : k = 1 := by omega
        go_wp2_with fail
        go_ret
        exact ⟨rfl, rfl⟩

/-- A Since of a log, without a bound, from a clock on. -/
theorem logSince_any (w : World) (g : Nat) (h : Option Nat) (x : LogV) (kind c c' : Int) (hl : LogAt w g h x) (hn : x.es.length ≤ 1099511627776) (hf : x.floor = 0) (h0 : 0 ≤ c) (hcc : c ≤ c') (t : Told) (ht : told (x.es.filter (takes kind c c')) = t) :
    Calls Tryz.prog 41 #[.pointer (some ⟨g, 0, none⟩), .int .i64 kind, .int .i64 c, .int .i64 c', .int .i64 0] w fun e w' =>
      ∃ A0 A1 A2 p0 p1 p2 h0 h1, e = .returned (.tuple #[.agg #[.slice A0 t.made.length p0, .slice A1 t.turned.length p1, .slice A2 t.gone.length p2, .int .i64 c', .bool false], .int .i64 0]) ∧
        Sl w' 3 1 (.slice A0 t.made.length p0) h0 t.made.length (t.made.map encI) ∧ Sl w' 3 1 (.slice A1 t.turned.length p1) h1 t.turned.length (t.turned.map encI) ∧ Below w.heap.size w w' := by
  have h1 := since_any w g h x kind c c' 0 hl hn
  rw [since_all x kind c c' 0 (by omega) (by rw [hf]; omega) (by omega), ht] at h1
  refine h1.mono ?_
  rintro e w' ⟨cv, rfl, hch, hb⟩
  obtain ⟨A0, A1, A2, p0, p1, p2, cv, hh, rfl, k0, k1, k2, hsl, hown⟩ := hch.form
  have s0 := hsl 0 (by decide)
  have s1 := hsl 1 (by decide)
  rw [k0] at s0
  rw [k1] at s1
  exact ⟨A0, A1, A2, p0, p1, p2, hh 0, hh 1, rfl, s0, s1, hb⟩

end Go.Proofs.YtmbibhphpjmboaaGreatDoor
