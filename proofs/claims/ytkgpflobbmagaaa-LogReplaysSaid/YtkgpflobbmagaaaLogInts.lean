/-
  The walks of pillarboxref17.Ints and .Changes, where the two are one.
-/
import Derived.Test.YtkgpflobbmagaaaLogEnts
namespace Go.Proofs.Ytkgpflobbmagaaa
open Go.RowKit
attribute [local go_sem ↓] Go.wp_at_zero Go.wp_at_succ

set_option maxRecDepth 100000 in
set_option maxHeartbeats 2000000 in
theorem ints_same (w : World) (va vb : Value) (n : Nat) (a : List Int) (hn : a.length = n) (ha : RdS w [] 1 va n (intsV a)) (hb : RdS w [] 1 vb n (intsV a)) :
    Calls Try.prog 48 #[va, vb] w fun e w' => e = .returned (.bool true) ∧ Below w.heap.size w w' := by
  obtain ⟨A, ca, rfl, hca1, hca2⟩ := ha.form
  have hnb : n ≤ 9223372036854775807 := by
    unfold maxLen at hca2
    omega
  obtain ⟨B, cb, rfl, _, _⟩ := hb.form
  have HA := Lib.hid ha
  have HB := Lib.hid hb
  have HN := Lib.hid hn
  clear hn ha hb
  go_enter Try.func48, Try.ntmps48
  go_wp2_with fail
  go_loopw [5] (fun i wr => ∃ (k : Nat), k ≤ n ∧ i = .int .i64 k ∧ Hid (Below w.heap.size w wr)) (fun i _ => n - (intOf i).toNat)
  case atStart => exact ⟨0, Nat.zero_le _, rfl, Lib.hid (Below.refl _ _)⟩
  case round =>
    obtain ⟨k, hk, rfl, HU⟩ := hrel
    by_cases hlt : k < n
    · have hka : k < a.length := by rw [HN.out]; exact hlt
      have hsz := HU.out.size
      obtain ⟨ba, offa, ca', hva, _, _, hbla, _, hcell1⟩ := HA.out.at_ (by omega)
      injection hva with hva1 hva2 hva3
      subst hva1
      obtain ⟨bb, offb, cb', hvb, _, _, hblb, _, hcell2⟩ := HB.out.at_ (by omega)
      injection hvb with hvb1 hvb2 hvb3
      subst hvb1
      clear hva2 hva3 hvb2 hvb3
      have hge : (intsV a)[k]? = some (.int .i64 a[k]) := by simp [intsV, hka]
      have d0 : wr.cell? ⟨ba, offa + k, none⟩ = some (.int .i64 a[k]) := (HU.out.cell (p := ⟨ba, offa + k, none⟩) hbla).trans ((hcell1 k (by omega)).trans hge)
      have e0 : wr.cell? ⟨bb, offb + k, none⟩ = some (.int .i64 a[k]) := (HU.out.cell (p := ⟨bb, offb + k, none⟩) hblb).trans ((hcell2 k (by omega)).trans hge)
      clear hcell1 hcell2 hge
      generalize a[k] = z at d0 e0
      go_wp2_with fail
      go_quiet (fail)
      go_wp2
      have HB2 := fun c => Lib.hid (below_drewN HU.out c)
      refine ⟨?_, by simp [intOf]; omega⟩
      first | exact ⟨k + 1, by omega, by go_num, HB2 nq⟩ | ((repeat apply Exists.intro); exact ⟨⟨k + 1, by omega, by go_num, HB2 nq⟩, rfl⟩)
    · have hkn : k = n := by omega
      subst hkn
      go_wp2
      go_ret
      exact ⟨rfl, HU.out⟩

/-- Lists that can be read. -/
structure RdL (w : World) (t : Told) (A0 A1 A2 : Option Addr) (p0 p1 p2 : Nat) : Prop where
  r0 : RdS w [] 1 (.slice A0 t.made.length p0) t.made.length (intsV t.made)
  r1 : RdS w [] 1 (.slice A1 t.turned.length p1) t.turned.length (intsV t.turned)
  r2 : RdS w [] 1 (.slice A2 t.gone.length p2) t.gone.length (intsV t.gone)
theorem RdL.below {w w' : World} {t : Told} {A0 A1 A2 : Option Addr} {p0 p1 p2 : Nat} (q : RdL w t A0 A1 A2 p0 p1 p2) (h : Below w.heap.size w w') : RdL w' t A0 A1 A2 p0 p1 p2 := ⟨q.r0.below h, q.r1.below h, q.r2.below h⟩
theorem RdL.alloc {w : World} {t : Told} {A0 A1 A2 : Option Addr} {p0 p1 p2 : Nat} (q : RdL w t A0 A1 A2 p0 p1 p2) (o : Obj) : RdL (w.alloc o) t A0 A1 A2 p0 p1 p2 := q.below ((Below.refl _ _).alloc (Nat.le_refl _) o)
theorem Lists.reads {w : World} {B : Nat} {t : Told} {A0 A1 A2 : Option Addr} {p0 p1 p2 : Nat} (h : Lists w B t A0 A1 A2 p0 p1 p2) : RdL w t A0 A1 A2 p0 p1 p2 := by
  obtain ⟨cv, hh, k0, k1, k2, hsl, _⟩ := h
  have s0 := hsl 0 (by decide)
  have s1 := hsl 1 (by decide)
  have s2 := hsl 2 (by decide)
  rw [k0] at s0
  rw [k1] at s1
  rw [k2] at s2
  exact ⟨s0.reads [] (by simp), s1.reads [] (by simp), s2.reads [] (by simp)⟩

set_option maxRecDepth 100000 in
set_option maxHeartbeats 2000000 in
theorem changes_same (w : World) (t : Told) (st : Int) (more : Bool) (A0 A1 A2 B0 B1 B2 : Option Addr) (p0 p1 p2 q0 q1 q2 : Nat) (ha : RdL w t A0 A1 A2 p0 p1 p2) (hb : RdL w t B0 B1 B2 q0 q1 q2) :
    Calls Try.prog 30 #[.agg #[.slice A0 t.made.length p0, .slice A1 t.turned.length p1, .slice A2 t.gone.length p2, .int .i64 st, .bool more], .agg #[.slice B0 t.made.length q0, .slice B1 t.turned.length q1, .slice B2 t.gone.length q2, .int .i64 st, .bool more]] w fun e w' =>
      e = .returned (.bool true) ∧ Below w.heap.size w w' := by
  have HA := Lib.hid ha
  have HB := Lib.hid hb
  clear ha hb
  generalize hn0 : t.made.length = n0
  generalize hn1 : t.turned.length = n1
  generalize hn2 : t.gone.length = n2
  have h0 := fun W (hw : Below w.heap.size w W) => ints_same W (.slice A0 n0 p0) (.slice B0 n0 q0) n0 t.made hn0 (hn0 ▸ HA.out.r0.below hw) (hn0 ▸ HB.out.r0.below hw)
  have h1 := fun W (hw : Below w.heap.size w W) => ints_same W (.slice A1 n1 p1) (.slice B1 n1 q1) n1 t.turned hn1 (hn1 ▸ HA.out.r1.below hw) (hn1 ▸ HB.out.r1.below hw)
  have h2 := fun W (hw : Below w.heap.size w W) => ints_same W (.slice A2 n2 p2) (.slice B2 n2 q2) n2 t.gone hn2 (hn2 ▸ HA.out.r2.below hw) (hn2 ▸ HB.out.r2.below hw)
  have HN := Lib.hid (And.intro hn0 (And.intro hn1 hn2))
  clear hn0 hn1 hn2
  go_enter Try.func30, Try.ntmps30
  go_wp2_with fail
  have hX := (Blk.new w 46 #[.slice A0 n0 p0, .slice A1 n1 p1, .slice A2 n2 p2, .int .i64 st, .bool more]).alloc (.cells #[.slice B0 n0 q0, .slice B1 n1 q1, .slice B2 n2 q2, .int .i64 st, .bool more] 46)
  have hY := Blk.new (w.alloc (.cells #[.slice A0 n0 p0, .slice A1 n1 p1, .slice A2 n2 p2, .int .i64 st, .bool more] 46)) 46 #[.slice B0 n0 q0, .slice B1 n1 q1, .slice B2 n2 q2, .int .i64 st, .bool more]
  have hB0 : Below w.heap.size w ((w.alloc (.cells #[.slice A0 n0 p0, .slice A1 n1 p1, .slice A2 n2 p2, .int .i64 st, .bool more] 46)).alloc (.cells #[.slice B0 n0 q0, .slice B1 n1 q1, .slice B2 n2 q2, .int .i64 st, .bool more] 46)) := ((Below.refl _ w).alloc (Nat.le_refl _) _).alloc (by simp) _
  simp only [World.size_alloc] at hY
  generalize (w.alloc (.cells #[.slice A0 n0 p0, .slice A1 n1 p1, .slice A2 n2 p2, .int .i64 st, .bool more] 46)).alloc (.cells #[.slice B0 n0 q0, .slice B1 n1 q1, .slice B2 n2 q2, .int .i64 st, .bool more] 46) = W0 at hX hY hB0 ⊢
  generalize w.heap.size + 1 = Y at hY ⊢
  go_wp2_with (first
    | (go_at_call 48; with_reducible refine (h0 _ hB0).mono ?_; rintro e W1 ⟨rfl, hb⟩; have HX1 := Lib.hid (hX.below hb hX.lt); have HY1 := Lib.hid (hY.below hb hY.lt); have HB1 := Lib.hid (bthen' hB0 hb); clear hb hB0 hX hY h0; have x1 := HX1.out.cell 1; have y1 := HY1.out.cell 1)
    | (go_at_call 48; with_reducible refine (h1 _ HB1.out).mono ?_; rintro e W2 ⟨rfl, hb⟩; have HX2 := Lib.hid (HX1.out.below hb HX1.out.lt); have HY2 := Lib.hid (HY1.out.below hb HY1.out.lt); have HB2 := Lib.hid (bthen' HB1.out hb); clear hb HB1 HX1 HY1 h1; have x2 := HX2.out.cell 2; have y2 := HY2.out.cell 2)
    | (go_at_call 48; with_reducible refine (h2 _ HB2.out).mono ?_; rintro e W3 ⟨rfl, hb⟩; have HX3 := Lib.hid (HX2.out.below hb HX2.out.lt); have HY3 := Lib.hid (HY2.out.below hb HY2.out.lt); have HB3 := Lib.hid (bthen' HB2.out hb); clear hb HB2 HX2 HY2 h2; have x3 := HX3.out.cell 3; have x4 := HX3.out.cell 4; have y3 := HY3.out.cell 3; have y4 := HY3.out.cell 4)
    | fail)
  go_ret
  exact ⟨rfl, HB3.out⟩

end Go.Proofs.Ytkgpflobbmagaaa
