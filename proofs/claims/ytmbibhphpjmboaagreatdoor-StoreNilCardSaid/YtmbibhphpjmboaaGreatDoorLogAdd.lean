/-
  The walks of log.New, Log.Floor and Log.Add.
-/
import Derived.Test.YtmbibhphpjmboaaGreatDoorMem
import Derived.Test.YtmbibhphpjmboaaGreatDoorLogPlain
import Derived.Test.YtmbibhphpjmboaaGreatDoorProg
import Derived.Deep.QuietTactic
import Derived.BigQuiet
import Derived.Deep.RegionLaw
import Derived.Deep.DrawnRows
import Derived.Deep.DeepCutAuto
import Derived.Deep.CutBlock
namespace Go.Proofs.YtmbibhphpjmboaaGreatDoor
open Go.RowKit
attribute [local go_sem ↓] Go.wp_at_zero Go.wp_at_succ

theorem Try.infoEntry : (Tryz.prog.info? 117).map (fun i => (i.zero, i.size, i.bytes)) = some (some (.agg #[.int .i64 0, .int .i64 0, .int .i64 0, .int .i64 0]), 4, 32) := by kernel_rfl

/-- A log in memory: block g, its entries' block h. -/
def LogAt (w : World) (g : Nat) (h : Option Nat) (x : LogV) : Prop :=
  ∃ v, Blk w g 156 #[.int .i64 x.most, v, .int .i64 x.floor] ∧ Sl w 117 4 v h x.es.length (flatE x.es)

theorem LogAt.chg {w w' : World} {g : Nat} {h : Option Nat} {x : LogV} {S : List Nat} (hl : LogAt w g h x) (hc : Chg S w w') (hg : g ∉ S) (hh : ∀ b, h = some b → b ∉ S) : LogAt w' g h x := by
  obtain ⟨v, h1, h2⟩ := hl
  exact ⟨v, h1.chg hc hg, h2.chg hc hh⟩

theorem LogAt.heap {w w' : World} {g : Nat} {h : Option Nat} {x : LogV} (hl : LogAt w g h x) (he : w'.heap = w.heap) : LogAt w' g h x := by
  obtain ⟨v, h1, h2⟩ := hl
  exact ⟨v, h1.heap he, h2.heap he⟩
theorem LogAt.moved {w w' : World} {g : Nat} {h : Option Nat} {x : LogV} (hl : LogAt w g h x) {o : Obj} {n : Nat} (he : w' = (w.alloc o).drewN n) : LogAt w' g h x := by
  subst he
  obtain ⟨v, h1, h2⟩ := hl
  exact ⟨v, (h1.alloc o).heap rfl, (h2.alloc o).heap rfl⟩

/-- Entries that can be read through a slice value: its address A; their block is none of S. -/
def RdE (w : World) (A : Option Addr) (S : List Nat) (e : List E4) : Prop :=
  e ≠ [] → ∃ b off, A = some ⟨b, off, none⟩ ∧ b < w.heap.size ∧ b ∉ S ∧ ∀ j, j < e.length * 4 → w.cell? ⟨b, off + j, none⟩ = (flatE e)[j]?

theorem new_bad (n : Int) (w : World) (hn : n < 1) :
    Calls Tryz.prog 49 #[.int .i64 n] w fun e w' => e = .returned (.tuple #[.pointer none, .int .i64 1]) ∧ w = w' := by
  go_enter Tryz.func49, Tryz.ntmps49
  go_wp2
  go_ret2
  exact ⟨rfl, rfl⟩
theorem new_ok (n : Int) (w : World) (hn : ¬ n < 1) :
    Calls Tryz.prog 49 #[.int .i64 n] w fun e w' => e = .returned (.tuple #[.pointer (some ⟨w.heap.size, 0, none⟩), .int .i64 0]) ∧ LogAt w' w.heap.size none ⟨n, [], 0⟩ ∧ Below w.heap.size w w' ∧ w.heap.size < w'.heap.size := by
  go_enter Tryz.func49, Tryz.ntmps49
  go_wp2
  go_ret2
  exact ⟨rfl, ⟨_, Blk.new _ _ _, (Sl.nil _ _ _)⟩, (Below.refl _ _).alloc (Nat.le_refl _) _, by simp⟩

theorem floor_any (w : World) (g : Nat) (h : Option Nat) (x : LogV) (hl : LogAt w g h x) :
    Calls Tryz.prog 46 #[.pointer (some ⟨g, 0, none⟩)] w fun e w' => e = .returned (.int .i64 x.floor) ∧ w = w' := by
  obtain ⟨v, hB, _⟩ := hl
  have c2 : w.cell? ⟨g, 2, none⟩ = some (.int .i64 x.floor) := hB.cell 2
  clear hB
  go_enter Tryz.func46, Tryz.ntmps46
  go_wp2
  go_ret
  exact ⟨rfl, rfl⟩

/-- What Add's loop keeps. -/
structure AddRel (w : World) (g : Nat) (h : Option Nat) (x : LogV) (e : List E4) (k : Nat) (es : List E4) (h' : Option Nat) (wr : World) : Prop where
  loop : addLoop x.es e = addLoop es (e.drop k)
  len : es.length ≤ x.es.length + k
  log : LogAt wr g h' ⟨x.most, es, x.floor⟩
  chg : Chg (g :: h.toList) w wr
  own : h' = h ∨ ∃ k, h' = some k ∧ w.heap.size ≤ k

theorem add_step {w wr W1 w2 : World} {g : Nat} {h h' h2 : Option Nat} {x : LogV} {e es : List E4} {k : Nat} {y : E4} {A' A2 : Option Addr} {n m cap' cap2 : Nat} {o : Obj}
    (hu : AddRel w g h x e k es h' wr) (hk : k < e.length) (hy : e[k] = y) (hno : ¬ ∃ z ∈ es.getLast?, y.m < z.m)
    (q2 : Blk W1 g 156 #[.int .i64 x.most, .slice A' n cap', .int .i64 x.floor]) (q1 : Sl W1 117 4 (.slice A' n cap') h' n (flatE es)) (q4 : Chg (g :: h.toList) w W1)
    (hs2 : Sl w2 117 4 (.slice A2 m cap2) h2 (n + 1) (flatE es ++ (#[.int .i64 y.m, .int .i64 y.k, .int .i64 y.i, .int .i64 y.h] : Array Value).toList))
    (hc2 : Chg h'.toList (W1.alloc o).drew w2) (ho2 : h2 = h' ∨ ∃ g, h2 = some g ∧ (W1.alloc o).drew.heap.size ≤ g) :
    AddRel w g h x e (k + 1) (es ++ [y]) h2 (w2.setCell ⟨g, 1, none⟩ (.slice A2 m cap2)) := by
  have hsz : (W1.alloc o).drew.heap.size = W1.heap.size + 1 := by simp
  have hgn : g ∉ h'.toList := fun hm => by
    simp at hm
    exact q1.ne_blk q2 (by decide) g hm rfl
  have hw1 : w.heap.size ≤ W1.heap.size := q4.size
  have hB2 : Blk w2 g 156 #[.int .i64 x.most, .slice A' n cap', .int .i64 x.floor] := ((q2.alloc o).heap rfl : Blk (W1.alloc o).drew g _ _).chg hc2 hgn
  have hfl : flatE es ++ (#[.int .i64 y.m, .int .i64 y.k, .int .i64 y.i, .int .i64 y.h] : Array Value).toList = flatE (es ++ [y]) := by rw [flatE_append]; rfl
  rw [hfl] at hs2
  have hne2 : h2 ≠ some g := by
    intro hh
    exact hs2.ne_blk hB2 (by decide) g hh rfl
  have hfar : ∀ b, h2 = some b → b ≠ g := fun b hb hg => hne2 (by rw [hb, hg])
  have hn : n = es.length := by have := q1.1; rw [flatE_length] at this; omega
  have hm : m = n + 1 := by
    obtain ⟨A3, c3, hv, _⟩ := hs2.form
    injection hv
  subst hm
  subst hn
  have hchg : Chg (g :: h.toList) w w2 := by
    refine (((q4.alloc o).drew).trans hc2 fun i hi => ?_)
    simp at hi
    rcases hu.own with h1 | ⟨k1, h1, h3⟩
    · rw [h1] at hi
      exact .inl (by simp [hi])
    · rw [h1] at hi
      simp at hi
      subst hi
      exact .inr h3
  refine ⟨?_, ?_, ⟨_, hB2.set 1 _, ?_⟩, hchg.set (.inl (by simp)) _, ?_⟩
  · rw [hu.loop, List.drop_eq_getElem_cons hk, hy, addLoop, if_neg hno]
  · have := hu.len
    simp only [List.length_append, List.length_cons, List.length_nil]
    omega
  · have h3 := hs2.far (p := ⟨g, 1, none⟩) hne2 (.slice A2 (es.length + 1) cap2)
    have hl : (es ++ [y]).length = es.length + 1 := by simp
    rw [hl]
    exact h3
  · rcases ho2 with h1 | ⟨k1, h1, h3⟩
    · rw [h1]
      exact hu.own
    · exact .inr ⟨k1, h1, by omega⟩

/-- What is left behind the trimming. -/
theorem add_trim {W1 : World} {g : Nat} {h' : Option Nat} {x : LogV} {e es : List E4} {b off n N cap' : Nat}
    (q2 : Blk W1 g 156 #[.int .i64 x.most, .slice (some ⟨b, off, none⟩) N cap', .int .i64 x.floor]) (q1 : Sl W1 117 4 (.slice (some ⟨b, off, none⟩) N cap') h' N (flatE es))
    (hN : es.length = N) (hn : n + 1 < N) (hadd : x.add e = ⟨x.most, es.drop (n + 1), (es[n]'(by omega)).m⟩) :
    LogAt ((W1.setCell ⟨g, 2, none⟩ (.int .i64 (es[n]'(by omega)).m)).setCell ⟨g, 1, none⟩ (.slice (some ⟨b, off + (n + 1) * 4, none⟩) (N - (n + 1)) (cap' - (n + 1)))) g h' (x.add e) := by
  have hne : h' ≠ some g := fun hh => q1.ne_blk q2 (by decide) g hh rfl
  rw [hadd]
  refine ⟨.slice (some ⟨b, off + (n + 1) * 4, none⟩) (N - (n + 1)) (cap' - (n + 1)), ?_, ?_⟩
  · exact (q2.set 2 _).set 1 _
  · have h1 := ((q1.cut (n + 1) hn).far (p := ⟨g, 2, none⟩) hne (.int .i64 (es[n]'(by omega)).m)).far (p := ⟨g, 1, none⟩) hne (.slice (some ⟨b, off + (n + 1) * 4, none⟩) (N - (n + 1)) (cap' - (n + 1)))
    rw [flatE_drop] at h1
    have hl : (es.drop (n + 1)).length = N - (n + 1) := by simp [hN]
    rw [hl]
    exact h1

set_option maxRecDepth 100000 in
set_option maxHeartbeats 2000000 in
theorem add_any (w : World) (g : Nat) (h : Option Nat) (x : LogV) (A : Option Addr) (cap : Nat) (e : List E4) (hl : LogAt w g h x) (hm1 : 1 ≤ x.most) (hm2 : x.most ≤ 1099511627776)
    (hn1 : x.es.length ≤ 1099511627776) (hn2 : e.length ≤ 1099511627776) (hr : RdE w A (g :: h.toList) e) :
    Calls Tryz.prog 44 #[.pointer (some ⟨g, 0, none⟩), .slice A e.length cap] w fun e' w' => e' = .returned (.tuple #[]) ∧
      ∃ h', LogAt w' g h' (x.add e) ∧ Chg (g :: h.toList) w w' ∧ (h' = h ∨ ∃ k, h' = some k ∧ w.heap.size ≤ k) := by
  obtain ⟨i0, hi, hz0, hz1, hz2⟩ := info_parts Try.infoEntry
  have hstart : AddRel w g h x e 0 x.es h w := ⟨rfl, by omega, hl, Chg.refl _ _, .inl rfl⟩
  have HS := Lib.hid hstart
  clear hstart hl
  have HR := Lib.hid hr
  clear hr
  obtain ⟨L, hL⟩ : ∃ L, e.length = L := ⟨_, rfl⟩
  rw [hL]
  rw [hL] at hn2
  have HL := Lib.hid hL
  clear hL
  go_enter Tryz.func44, Tryz.ntmps44
  go_upto_block 0 with (fail)
  go_cut [] (fun wx => ∃ (es : List E4) (h' : Option Nat), Hid (addLoop x.es e = es) ∧ LogAt wx g h' ⟨x.most, es, x.floor⟩ ∧ Chg (g :: h.toList) w wx ∧ (h' = h ∨ ∃ k, h' = some k ∧ w.heap.size ≤ k) ∧ es.length ≤ 2199023255552)
  case first =>
    go_wp2_with fail
    go_loopw [12] (fun i wr => ∃ (k : Nat) (es : List E4) (h' : Option Nat), k ≤ L ∧ i = .int .i64 k ∧ Hid (AddRel w g h x e k es h' wr)) (fun i _ => L - (intOf i).toNat)
    case atStart => exact ⟨0, _, _, Nat.zero_le _, rfl, HS⟩
    case round =>
      obtain ⟨k, es, h', hk, rfl, HU⟩ := hrel
      by_cases hlt : k < L
      · have hke : k < e.length := by rw [HL.out]; exact hlt
        obtain ⟨b, off, rfl, hbl, hbn, hcell⟩ := HR.out (by rintro rfl; simp at hke)
        have hrd : ∀ j, j < e.length * 4 → wr.cell? ⟨b, off + j, none⟩ = (flatE e)[j]? := fun j hj => (HU.out.chg.cell (p := ⟨b, off + j, none⟩) hbl hbn).trans (hcell j hj)
        obtain ⟨f0, f1, f2, f3⟩ := flatE_at e k hke
        have d0 : wr.cell? ⟨b, off + k * 4, none⟩ = some (.int .i64 e[k].m) := (hrd (k * 4) (by omega)).trans f0
        have d1 : wr.cell? ⟨b, off + k * 4 + 1, none⟩ = some (.int .i64 e[k].k) := (hrd (k * 4 + 1) (by omega)).trans f1
        have d2 : wr.cell? ⟨b, off + k * 4 + 2, none⟩ = some (.int .i64 e[k].i) := (hrd (k * 4 + 2) (by omega)).trans f2
        have d3 : wr.cell? ⟨b, off + k * 4 + 3, none⟩ = some (.int .i64 e[k].h) := (hrd (k * 4 + 3) (by omega)).trans f3
        clear hrd hcell f0 f1 f2 f3
        obtain ⟨v, hB, hsl⟩ := HU.out.log
        obtain ⟨A', cap', rfl, hnc, hcm⟩ := hsl.form
        have c1 : wr.cell? ⟨g, 1, none⟩ = some (.slice A' es.length cap') := hB.cell 1
        have hgl : g < wr.heap.size := hB.lt
        have hbl2 : b < wr.heap.size := Nat.lt_of_lt_of_le hbl HU.out.chg.size
        generalize he : e[k] = y at d0 d1 d2 d3
        have HE := Lib.hid he
        clear he
        have HB := Lib.hid hB
        have HSL := Lib.hid hsl
        have hn3 : es.length ≤ 2199023255552 := by have := HU.out.len; omega
        clear hB hsl
        by_cases hz : es.length = 0
        · have hes : es = [] := List.eq_nil_of_length_eq_zero hz
          subst hes
          simp only [List.length_nil] at c1 hnc hn3
          have hno : ¬ ∃ z ∈ ([] : List E4).getLast?, y.m < z.m := by simp
          clear hz
          go_wp2_with fail
          go_quiet (fail)
          go_wp2_with fail
          have q1 : Sl ((wr.alloc (.cells #[.int .i64 y.m, .int .i64 y.k, .int .i64 y.i, .int .i64 y.h] 117)).drewN nq) 117 4 (.slice A' 0 cap') h' 0 (flatE []) := (HSL.out.alloc _).heap rfl
          have q2 : Blk ((wr.alloc (.cells #[.int .i64 y.m, .int .i64 y.k, .int .i64 y.i, .int .i64 y.h] 117)).drewN nq) g 156 #[.int .i64 x.most, .slice A' 0 cap', .int .i64 x.floor] := (HB.out.alloc _).heap rfl
          have q3 : Blk ((wr.alloc (.cells #[.int .i64 y.m, .int .i64 y.k, .int .i64 y.i, .int .i64 y.h] 117)).drewN nq) wr.heap.size 117 #[.int .i64 y.m, .int .i64 y.k, .int .i64 y.i, .int .i64 y.h] := (Blk.new wr _ _).heap rfl
          have q4 : Chg (g :: h.toList) w ((wr.alloc (.cells #[.int .i64 y.m, .int .i64 y.k, .int .i64 y.i, .int .i64 y.h] 117)).drewN nq) := (HU.out.chg.alloc _).drewN _
          have q5 : ∀ b, h' = some b → b ≠ wr.heap.size := fun b hb => by have := HSL.out.lt b hb; omega
          generalize (wr.alloc (.cells #[.int .i64 y.m, .int .i64 y.k, .int .i64 y.i, .int .i64 y.h] 117)).drewN nq = W1 at q1 q2 q3 q4 ⊢
          have hX : wr.heap.size < W1.heap.size := q3.lt
          generalize wr.heap.size = X at q3 q5 hX ⊢
          have e1 : W1.cell? ⟨g, 1, none⟩ = some (.slice A' 0 cap') := q2.cell 1
          have e2 : W1.frozen? ⟨g, 1, none⟩ = false := q2.frozen 1
          have e3 : W1.cell? ⟨X, 0, none⟩ = some (.int .i64 y.m) := q3.cell 0
          have e4 : W1.cell? ⟨X, 1, none⟩ = some (.int .i64 y.k) := q3.cell 1
          have e5 : W1.cell? ⟨X, 2, none⟩ = some (.int .i64 y.i) := q3.cell 2
          have e6 : W1.cell? ⟨X, 3, none⟩ = some (.int .i64 y.h) := q3.cell 3
          have hgl1 : g < W1.heap.size := q2.lt
          have hgn : g ∉ h'.toList := fun hm => by
            simp at hm
            exact q1.ne_blk q2 (by decide) g hm rfl
          go_region_law (refine step_append_sl _ (by rfl) (.tmp 41) (.tmp 43) _ (by rfl) Tryz.underlying93 hi hz0 hz1 hz2 rfl (by omega) ((q1.alloc _).heap (by rfl)) (by simp [Act.eval]) W1.heap.size #[.int .i64 y.m, .int .i64 y.k, .int .i64 y.i, .int .i64 y.h] (e' := 117) (fr := (0, 0)) (heap_alloc_new W1 _) 1 1 (by simp [Act.eval]) (by rfl) (by simp [Value.oneCell']) (by unfold maxLen; omega) (by omega) ?_; intro v2 h2 w2 hs2 hc2 ho2; obtain ⟨A2, cap2, rfl, _, _⟩ := hs2.form; have hf2 : w2.frozen? ⟨g, 1, none⟩ = false := (hc2.frozen (p := ⟨g, 1, none⟩) (by simp; omega) hgn).trans ((World.frozen?_alloc_past _ _ _ hgl1).trans e2); have hf3 : w2.cell? ⟨g, 1, none⟩ = some (.slice A' 0 cap') := (hc2.cell (p := ⟨g, 1, none⟩) (by simp; omega) hgn).trans ((World.cell?_alloc_past _ _ _ hgl1).trans e1))
          all_goals
            have hrel := add_step HU.out hke HE.out hno q2 q1 q4 hs2 hc2 ho2
            have HREL := Lib.hid hrel
            clear hrel hs2 hc2 ho2
            go_wp2
            refine ⟨?_, by simp [intOf]; omega⟩
            first | exact ⟨k + 1, _, _, by omega, by go_num, HREL⟩ | ((repeat apply Exists.intro); exact ⟨⟨k + 1, _, _, by omega, by go_num, HREL⟩, rfl⟩)
        · obtain ⟨es0, z, rfl⟩ : ∃ es0 z, es = es0 ++ [z] := ⟨es.dropLast, es.getLast (by rintro rfl; simp at hz), (List.dropLast_concat_getLast _).symm⟩
          have hN : (es0 ++ [z]).length = es0.length + 1 := by simp
          rw [hN] at c1 hnc hn3 HB HSL
          obtain ⟨ab, aoff, acap, hh', hva, _, _, hbl3, hat⟩ := HSL.out.at_ (by omega)
          injection hva with hva1 hva2 hva3
          subst hva1
          subst hva3
          have hzc : wr.cell? ⟨ab, aoff + es0.length * 4, none⟩ = some (.int .i64 z.m) := by
            have h1 := (hat (es0.length * 4) (by omega)).1
            rw [h1]
            have h2 := (flatE_at (es0 ++ [z]) es0.length (by simp)).1
            rw [h2]
            simp
          clear hat
          have hlast : (es0 ++ [z]).getLast? = some z := by simp
          generalize hNN : es0.length = N at c1 hnc hn3 HB HSL hzc
          have HNN := Lib.hid hNN
          clear hNN hN hz
          have w1 : IntKind.i64.wrap ((N : Int) + 1 - 1) = (N : Int) := by rw [show (N : Int) + 1 - 1 = N from by omega]; exact IntWalk.i64_in _ (by omega)
          by_cases hbr : y.m < z.m
          · have hloop : addLoop x.es e = es0 ++ [z] := by
              rw [HU.out.loop, List.drop_eq_getElem_cons hke, HE.out, addLoop, if_pos]
              rw [hlast]
              simpa using hbr
            have HF := Lib.hid hloop
            clear hloop
            go_wp2_with fail
            go_quiet (fail)
            go_wp2_with fail
            go_meet
            exact ⟨_, h', HF, HU.out.log.moved rfl, ((HU.out.chg.alloc _).drewN _), HU.out.own, by simp [HNN.out]; omega⟩
          · have hno : ¬ ∃ u ∈ (es0 ++ [z]).getLast?, y.m < u.m := by
              rw [hlast]
              simpa using hbr
            go_wp2_with fail
            go_quiet (fail)
            go_wp2_with fail
            have q1 : Sl ((wr.alloc (.cells #[.int .i64 y.m, .int .i64 y.k, .int .i64 y.i, .int .i64 y.h] 117)).drewN nq) 117 4 (.slice (some ⟨ab, aoff, none⟩) (N + 1) cap') h' (N + 1) (flatE (es0 ++ [z])) := (HSL.out.alloc _).heap rfl
            have q2 : Blk ((wr.alloc (.cells #[.int .i64 y.m, .int .i64 y.k, .int .i64 y.i, .int .i64 y.h] 117)).drewN nq) g 156 #[.int .i64 x.most, .slice (some ⟨ab, aoff, none⟩) (N + 1) cap', .int .i64 x.floor] := (HB.out.alloc _).heap rfl
            have q3 : Blk ((wr.alloc (.cells #[.int .i64 y.m, .int .i64 y.k, .int .i64 y.i, .int .i64 y.h] 117)).drewN nq) wr.heap.size 117 #[.int .i64 y.m, .int .i64 y.k, .int .i64 y.i, .int .i64 y.h] := (Blk.new wr _ _).heap rfl
            have q4 : Chg (g :: h.toList) w ((wr.alloc (.cells #[.int .i64 y.m, .int .i64 y.k, .int .i64 y.i, .int .i64 y.h] 117)).drewN nq) := (HU.out.chg.alloc _).drewN _
            have q5 : ∀ b, h' = some b → b ≠ wr.heap.size := fun b hb => by have := HSL.out.lt b hb; omega
            generalize (wr.alloc (.cells #[.int .i64 y.m, .int .i64 y.k, .int .i64 y.i, .int .i64 y.h] 117)).drewN nq = W1 at q1 q2 q3 q4 ⊢
            have hX : wr.heap.size < W1.heap.size := q3.lt
            generalize wr.heap.size = X at q3 q5 hX ⊢
            have e1 : W1.cell? ⟨g, 1, none⟩ = some (.slice (some ⟨ab, aoff, none⟩) (N + 1) cap') := q2.cell 1
            have e2 : W1.frozen? ⟨g, 1, none⟩ = false := q2.frozen 1
            have e3 : W1.cell? ⟨X, 0, none⟩ = some (.int .i64 y.m) := q3.cell 0
            have e4 : W1.cell? ⟨X, 1, none⟩ = some (.int .i64 y.k) := q3.cell 1
            have e5 : W1.cell? ⟨X, 2, none⟩ = some (.int .i64 y.i) := q3.cell 2
            have e6 : W1.cell? ⟨X, 3, none⟩ = some (.int .i64 y.h) := q3.cell 3
            have hgl1 : g < W1.heap.size := q2.lt
            have hgn : g ∉ h'.toList := fun hm => by
              simp at hm
              exact q1.ne_blk q2 (by decide) g hm rfl
            go_region_law (refine step_append_sl _ (by rfl) (.tmp 41) (.tmp 43) _ (by rfl) Tryz.underlying93 hi hz0 hz1 hz2 rfl (by omega) ((q1.alloc _).heap (by rfl)) (by simp [Act.eval]) W1.heap.size #[.int .i64 y.m, .int .i64 y.k, .int .i64 y.i, .int .i64 y.h] (e' := 117) (fr := (0, 0)) (heap_alloc_new W1 _) 1 1 (by simp [Act.eval]) (by rfl) (by simp [Value.oneCell']) (by unfold maxLen; omega) (by omega) ?_; intro v2 h2 w2 hs2 hc2 ho2; obtain ⟨A2, cap2, rfl, _, _⟩ := hs2.form; have hf2 : w2.frozen? ⟨g, 1, none⟩ = false := (hc2.frozen (p := ⟨g, 1, none⟩) (by simp; omega) hgn).trans ((World.frozen?_alloc_past _ _ _ hgl1).trans e2); have hf3 : w2.cell? ⟨g, 1, none⟩ = some (.slice (some ⟨ab, aoff, none⟩) (N + 1) cap') := (hc2.cell (p := ⟨g, 1, none⟩) (by simp; omega) hgn).trans ((World.cell?_alloc_past _ _ _ hgl1).trans e1))
            all_goals
              have hrel := add_step HU.out hke HE.out hno q2 q1 q4 hs2 hc2 ho2
              have HREL := Lib.hid hrel
              clear hrel hs2 hc2 ho2
              go_wp2
              refine ⟨?_, by simp [intOf]; omega⟩
              first | exact ⟨k + 1, _, _, by omega, by go_num, HREL⟩ | ((repeat apply Exists.intro); exact ⟨⟨k + 1, _, _, by omega, by go_num, HREL⟩, rfl⟩)
      · have hkL : k = L := by omega
        subst hkL
        have hloop : addLoop x.es e = es := by
          rw [HU.out.loop, List.drop_of_length_le (by rw [HL.out]; exact Nat.le_refl _)]
          rfl
        have HF := Lib.hid hloop
        clear hloop
        go_wp2_with fail
        go_meet
        exact ⟨_, h', HF, HU.out.log, HU.out.chg, HU.out.own, by have := HU.out.len; omega⟩
  case rest =>
    obtain ⟨es, h', HF, hlog, hchg, hown, hlen⟩ := hcut
    obtain ⟨v, q2a, q1a⟩ := hlog
    have q2 : Blk wc g 156 #[.int .i64 x.most, v, .int .i64 x.floor] := q2a
    have q1 : Sl wc 117 4 v h' es.length (flatE es) := q1a
    clear q1a q2a
    obtain ⟨A', cap', rfl, hnc, hcm⟩ := q1.form
    obtain ⟨M, hM⟩ : ∃ M : Nat, x.most = (M : Int) := ⟨x.most.toNat, by omega⟩
    have c0 : wc.cell? ⟨g, 0, none⟩ = some (.int .i64 (M : Int)) := by rw [← hM]; exact q2.cell 0
    have c1 : wc.cell? ⟨g, 1, none⟩ = some (.slice A' es.length cap') := q2.cell 1
    have c2 : wc.cell? ⟨g, 2, none⟩ = some (.int .i64 x.floor) := q2.cell 2
    have f1 : wc.frozen? ⟨g, 1, none⟩ = false := q2.frozen 1
    have f2 : wc.frozen? ⟨g, 2, none⟩ = false := q2.frozen 2
    have HQ2 := Lib.hid q2
    have HQ1 := Lib.hid q1
    have HC := Lib.hid hchg
    have HO := Lib.hid hown
    clear q2 q1 hchg hown HR HS
    by_cases htrim : M < es.length
    · obtain ⟨n, hn⟩ : ∃ n, es.length = M + (n + 1) := ⟨es.length - M - 1, by omega⟩
      have hwr : IntKind.i64.wrap ((es.length : Int) - (M : Int)) = (n : Int) + 1 := by
        rw [show (es.length : Int) - (M : Int) = (n : Int) + 1 from by omega]
        exact IntWalk.i64_in _ (by omega)
      obtain ⟨b, off, acap, hh, hva, _, _, hbl, hat⟩ := HQ1.out.at_ (by omega)
      injection hva with hva1 _ hva3
      subst hva1
      subst hva3
      have hnlt : n < es.length := by omega
      have hzc : wc.cell? ⟨b, off + n * 4, none⟩ = some (.int .i64 es[n].m) := by
        have h1 := (hat (n * 4) (by omega)).1
        rw [h1]
        exact (flatE_at es n hnlt).1
      clear hat
      have hadd : x.add e = ⟨x.most, es.drop (n + 1), es[n].m⟩ := by
        unfold LogV.add
        rw [HF.out, hM, if_pos (by omega), show ((es.length : Int) - (M : Int)).toNat = n + 1 from by omega]
        simp [List.getElem?_eq_getElem hnlt]
      have hcap : ¬ cap' = n + 1 := by omega
      have hfin := add_trim (e := e) (x := x) HQ2.out HQ1.out rfl (show n + 1 < es.length by omega) hadd
      have HFIN := Lib.hid hfin
      have hl1 : n + 1 ≤ es.length := by omega
      have HN := Lib.hid hn
      have HCH : Hid (Chg (g :: h.toList) w ((wc.setCell ⟨g, 2, none⟩ (.int .i64 es[n].m)).setCell ⟨g, 1, none⟩ (.slice (some ⟨b, off + (n + 1) * 4, none⟩) (es.length - (n + 1)) (cap' - (n + 1))))) :=
        (HC.out.set (p := ⟨g, 2, none⟩) (.inl (by simp)) _).set (p := ⟨g, 1, none⟩) (.inl (by simp)) _
      have hm3 : 1 ≤ (M : Int) := by omega
      generalize es[n].m = zm at hzc HFIN HCH
      clear hfin hadd hm1 hm2 hn hM
      go_wp2_with fail
      go_quiet (fail)
      go_wp2
      go_end0
      exact ⟨rfl, h', HFIN.out.heap rfl, HCH.out.heap rfl rfl rfl rfl, HO.out⟩
    · have hwr : IntKind.i64.wrap ((es.length : Int) - (M : Int)) = (es.length : Int) - (M : Int) := IntWalk.i64_in _ (by omega)
      have hadd : x.add e = ⟨x.most, es, x.floor⟩ := by
        unfold LogV.add
        rw [HF.out, hM, if_neg (by omega)]
      have HFIN : Hid (LogAt wc g h' (x.add e)) := by
        rw [hadd]
        exact ⟨_, HQ2.out, HQ1.out⟩
      have hle : (es.length : Int) - (M : Int) ≤ 0 := by omega
      clear hadd hM
      go_wp2_with fail
      go_quiet (fail)
      go_wp2
      go_end0
      exact ⟨rfl, h', HFIN.out.heap rfl, HC.out.heap rfl rfl rfl rfl, HO.out⟩

end Go.Proofs.YtmbibhphpjmboaaGreatDoor
