/-
  The walk of the reference's Log.Add.
-/
import Derived.Test.YtkgpflobbmagaaaLogTwo
namespace Go.Proofs.Ytkgpflobbmagaaa
open Go.RowKit
attribute [local go_sem ↓] Go.wp_at_zero Go.wp_at_succ

/-- A log of the reference's in memory. -/
def RLogAt (w : World) (g : Nat) (h : Option Nat) (x : LogV) : Prop :=
  ∃ v, Blk w g 60 #[.int .i64 x.most, v, .int .i64 x.floor] ∧ Sl w 42 4 v h x.es.length (flatE x.es)
theorem RLogAt.chg {w w' : World} {g : Nat} {h : Option Nat} {x : LogV} {S : List Nat} (hl : RLogAt w g h x) (hc : Chg S w w') (hg : g ∉ S) (hh : ∀ b, h = some b → b ∉ S) : RLogAt w' g h x := by
  obtain ⟨v, h1, h2⟩ := hl
  exact ⟨v, h1.chg hc hg, h2.chg hc hh⟩
theorem RLogAt.heap {w w' : World} {g : Nat} {h : Option Nat} {x : LogV} (hl : RLogAt w g h x) (he : w'.heap = w.heap) : RLogAt w' g h x := by
  obtain ⟨v, h1, h2⟩ := hl
  exact ⟨v, h1.heap he, h2.heap he⟩

structure RAddRel (w : World) (g : Nat) (h : Option Nat) (x : LogV) (e : List E4) (k : Nat) (es : List E4) (h' : Option Nat) (wr : World) : Prop where
  loop : addLoop x.es e = addLoop es (e.drop k)
  len : es.length ≤ x.es.length + k
  some_ : k = 0 ∨ es ≠ []
  log : RLogAt wr g h' ⟨x.most, es, x.floor⟩
  chg : Chg (g :: h.toList) w wr
  own : h' = h ∨ ∃ k, h' = some k ∧ w.heap.size ≤ k

theorem radd_step {w wr W1 w2 : World} {g : Nat} {h h' h2 : Option Nat} {x : LogV} {e es : List E4} {k : Nat} {y : E4} {A' A2 : Option Addr} {n m cap' cap2 : Nat} {o : Obj}
    (hu : RAddRel w g h x e k es h' wr) (hk : k < e.length) (hy : e[k] = y) (hno : ¬ ∃ z ∈ es.getLast?, y.m < z.m)
    (q2 : Blk W1 g 60 #[.int .i64 x.most, .slice A' n cap', .int .i64 x.floor]) (q1 : Sl W1 42 4 (.slice A' n cap') h' n (flatE es)) (q4 : Chg (g :: h.toList) w W1)
    (hs2 : Sl w2 42 4 (.slice A2 m cap2) h2 (n + 1) (flatE es ++ (#[.int .i64 y.m, .int .i64 y.k, .int .i64 y.i, .int .i64 y.h] : Array Value).toList))
    (hc2 : Chg h'.toList (W1.alloc o).drew w2) (ho2 : h2 = h' ∨ ∃ g, h2 = some g ∧ (W1.alloc o).drew.heap.size ≤ g) :
    RAddRel w g h x e (k + 1) (es ++ [y]) h2 (w2.setCell ⟨g, 1, none⟩ (.slice A2 m cap2)) := by
  have hsz : (W1.alloc o).drew.heap.size = W1.heap.size + 1 := by simp
  have hgn : g ∉ h'.toList := fun hm => by
    simp at hm
    exact q1.ne_blk q2 (by decide) g hm rfl
  have hw1 : w.heap.size ≤ W1.heap.size := q4.size
  have hB2 : Blk w2 g 60 #[.int .i64 x.most, .slice A' n cap', .int .i64 x.floor] := ((q2.alloc o).heap rfl : Blk (W1.alloc o).drew g _ _).chg hc2 hgn
  have hfl : flatE es ++ (#[.int .i64 y.m, .int .i64 y.k, .int .i64 y.i, .int .i64 y.h] : Array Value).toList = flatE (es ++ [y]) := by rw [flatE_append]; rfl
  rw [hfl] at hs2
  have hne2 : h2 ≠ some g := by
    intro hh
    exact hs2.ne_blk hB2 (by decide) g hh rfl
  have hn : n = es.length := by have := q1.1; rw [flatE_length] at this; omega
  have hm : m = n + 1 := by
    obtain ⟨A3, c3, hv, _⟩ := hs2.form
    injection hv
  subst hm
  subst hn
  have hchg : Chg (g :: h.toList) w w2 := by
    refine (((q4.alloc o).drew).trans hc2 fun i hi => ?_)
    simp at hi
    rcases hu.own with h1 | ⟨k1, h1, h3⟩
    · rw [h1] at hi
      exact .inl (by simp [hi])
    · rw [h1] at hi
      simp at hi
      subst hi
      exact .inr h3
  refine ⟨?_, ?_, .inr (by simp), ⟨_, hB2.set 1 _, ?_⟩, hchg.set (.inl (by simp)) _, ?_⟩
  · rw [hu.loop, List.drop_eq_getElem_cons hk, hy, addLoop, if_neg hno]
  · have := hu.len
    simp only [List.length_append, List.length_cons, List.length_nil]
    omega
  · have h3 := hs2.far (p := ⟨g, 1, none⟩) hne2 (.slice A2 (es.length + 1) cap2)
    have hl : (es ++ [y]).length = es.length + 1 := by simp
    rw [hl]
    exact h3
  · rcases ho2 with h1 | ⟨k1, h1, h3⟩
    · rw [h1]
      exact hu.own
    · exact .inr ⟨k1, h1, by omega⟩

/-- The floor behind j forgotten. -/
def flAt (es : List E4) (fl : Int) (j : Nat) : Int := if j = 0 then fl else (es[j - 1]?.getD default).m
theorem add_trimmed (x : LogV) (e es : List E4) (j : Nat) (hF : addLoop x.es e = es) (hj : (j : Int) ≤ max 0 ((es.length : Int) - x.most)) (hstop : (es.length : Int) - j ≤ x.most) : x.add e = ⟨x.most, es.drop j, flAt es x.floor j⟩ := by
  unfold LogV.add
  rw [hF]
  by_cases h : (es.length : Int) - x.most > 0
  · have hjj : ((es.length : Int) - x.most).toNat = j := by omega
    rw [if_pos h, hjj]
    unfold flAt
    rw [if_neg (by omega)]
  · have hj0 : j = 0 := by omega
    subst hj0
    rw [if_neg h]
    rfl

/-- Memory in the second loop. -/
structure TrimRel (w : World) (g : Nat) (h : Option Nat) (x : LogV) (es : List E4) (j : Nat) (h' : Option Nat) (wr : World) : Prop where
  log : RLogAt wr g h' ⟨x.most, es.drop j, flAt es x.floor j⟩
  chg : Chg (g :: h.toList) w wr
  own : h' = h ∨ ∃ k, h' = some k ∧ w.heap.size ≤ k

/-- How long the list is that the log's block holds. -/
def lenAt (w : World) (g : Nat) : Nat := match w.cell? ⟨g, 1, none⟩ with
  | some (.slice _ n _) => n
  | _ => 0
theorem RLogAt.lenAt {w : World} {g : Nat} {h : Option Nat} {x : LogV} (hl : RLogAt w g h x) : lenAt w g = x.es.length := by
  obtain ⟨v, hB, hs⟩ := hl
  obtain ⟨A, cap, rfl, _, _⟩ := hs.form
  have c1 : w.cell? ⟨g, 1, none⟩ = some (.slice A x.es.length cap) := hB.cell 1
  unfold Proofs.Ytkgpflobbmagaaa.lenAt
  rw [c1]
theorem TrimRel.heap {w wr w' : World} {g : Nat} {h h' : Option Nat} {x : LogV} {es : List E4} {j : Nat} (q : TrimRel w g h x es j h' wr) (n : Nat) (e : w' = wr.drewN n) : TrimRel w g h x es j h' w' := by
  subst e
  exact ⟨q.log.heap rfl, q.chg.drewN n, q.own⟩

theorem trim_step {w wr w2 : World} {g : Nat} {h h' h2 : Option Nat} {x : LogV} {es : List E4} {j M : Nat} {A2 : Option Addr} {n m cap2 : Nat} {v : Value} {o : Obj} {z : Int}
    (hu : TrimRel w g h x es j h' wr) (hj : j < es.length) (hz : es[j].m = z) (hM : x.most = (M : Int)) (q2 : Blk wr g 60 #[.int .i64 M, v, .int .i64 (flAt es x.floor j)])
    (hn : n = es.length - (j + 1))
    (hs2 : Sl w2 42 4 (.slice A2 m cap2) h2 n (flatE (es.drop (j + 1)))) (hfr : ∃ b, h2 = some b ∧ wr.heap.size ≤ b)
    (hc2 : Chg [wr.heap.size] ((wr.setCell ⟨g, 2, none⟩ (.int .i64 z)).alloc o) w2) :
    TrimRel w g h x es (j + 1) h2 (w2.setCell ⟨g, 1, none⟩ (.slice A2 m cap2)) := by
  have hg : g < wr.heap.size := q2.lt
  have hw := hu.chg.size
  have hB2 : Blk w2 g 60 #[.int .i64 M, v, .int .i64 z] := ((q2.set 2 (.int .i64 z)).alloc o).chg hc2 (by simp; omega)
  have hne2 : h2 ≠ some g := fun hh => hs2.ne_blk hB2 (by decide) g hh rfl
  have hfl : flAt es x.floor (j + 1) = z := by
    unfold flAt
    rw [if_neg (by omega)]
    simp [hj, hz]
  have hlen : (es.drop (j + 1)).length = n := by rw [List.length_drop, hn]
  refine ⟨⟨.slice A2 m cap2, ?_, ?_⟩, ?_, ?_⟩
  · rw [hfl, hM]
    exact hB2.set 1 _
  · simp only [hlen]
    exact hs2.far (p := ⟨g, 1, none⟩) hne2 _
  · have h1 : Chg (g :: h.toList) w ((wr.setCell ⟨g, 2, none⟩ (.int .i64 z)).alloc o) := (hu.chg.set (p := ⟨g, 2, none⟩) (.inl (by simp)) _).alloc o
    exact (h1.trans hc2 (fun i hi => by simp at hi; subst hi; exact .inr hw)).set (p := ⟨g, 1, none⟩) (.inl (by simp)) _
  · obtain ⟨b, hb, hb2⟩ := hfr
    exact .inr ⟨b, hb, by omega⟩

set_option maxRecDepth 100000 in
set_option maxHeartbeats 1000000 in
theorem refAdd_any (w : World) (g : Nat) (h : Option Nat) (x : LogV) (A : Option Addr) (cap : Nat) (e : List E4) (hl : RLogAt w g h x) (hm1 : 1 ≤ x.most) (hm2 : x.most ≤ 1099511627776)
    (hn1 : x.es.length ≤ 1099511627776) (hn2 : e.length ≤ 1099511627776) (hr : RdE w A (g :: h.toList) e) :
    Calls Try.prog 27 #[.pointer (some ⟨g, 0, none⟩), .slice A e.length cap] w fun e' w' => e' = .returned (.tuple #[]) ∧
      ∃ h', RLogAt w' g h' (x.add e) ∧ Chg (g :: h.toList) w w' ∧ (h' = h ∨ ∃ k, h' = some k ∧ w.heap.size ≤ k) := by
  obtain ⟨i0, hi, hz0, hz1, hz2⟩ := info_parts Try.infoEntry
  have hstart : RAddRel w g h x e 0 x.es h w := ⟨rfl, by omega, .inl rfl, hl, Chg.refl _ _, .inl rfl⟩
  have HS := Lib.hid hstart
  clear hstart hl
  have HR := Lib.hid hr
  clear hr
  obtain ⟨L, hL⟩ : ∃ L, e.length = L := ⟨_, rfl⟩
  rw [hL]
  rw [hL] at hn2
  have HL := Lib.hid hL
  clear hL
  go_enter Try.func27, Try.ntmps27
  go_upto_block 0 with (fail)
  go_cut [] (fun wx => ∃ (es : List E4) (h' : Option Nat), Hid (addLoop x.es e = es) ∧ Hid (RLogAt wx g h' ⟨x.most, es, x.floor⟩ ∧ Chg (g :: h.toList) w wx ∧ (h' = h ∨ ∃ k, h' = some k ∧ w.heap.size ≤ k)) ∧ es.length ≤ 2199023255552)
  case first =>
    go_wp2_with fail
    go_loopw [4] (fun i wr => ∃ (k : Nat) (es : List E4) (h' : Option Nat), k ≤ L ∧ i = .int .i64 k ∧ Hid (RAddRel w g h x e k es h' wr)) (fun i _ => L - (intOf i).toNat)
    case atStart => exact ⟨0, _, _, Nat.zero_le _, rfl, HS⟩
    case round =>
      obtain ⟨k, es, h', hk, rfl, HU⟩ := hrel
      by_cases hlt : k < L
      · have hke : k < e.length := by rw [HL.out]; exact hlt
        obtain ⟨b, off, rfl, hbl, hbn, hcell⟩ := HR.out (by rintro rfl; simp at hke)
        have hrd : ∀ j, j < e.length * 4 → wr.cell? ⟨b, off + j, none⟩ = (flatE e)[j]? := fun j hj => (HU.out.chg.cell (p := ⟨b, off + j, none⟩) hbl hbn).trans (hcell j hj)
        obtain ⟨f0, f1, f2, f3⟩ := flatE_at e k hke
        have d0 : wr.cell? ⟨b, off + k * 4, none⟩ = some (.int .i64 e[k].m) := (hrd (k * 4) (by omega)).trans f0
        have d1 : wr.cell? ⟨b, off + k * 4 + 1, none⟩ = some (.int .i64 e[k].k) := (hrd (k * 4 + 1) (by omega)).trans f1
        have d2 : wr.cell? ⟨b, off + k * 4 + 2, none⟩ = some (.int .i64 e[k].i) := (hrd (k * 4 + 2) (by omega)).trans f2
        have d3 : wr.cell? ⟨b, off + k * 4 + 3, none⟩ = some (.int .i64 e[k].h) := (hrd (k * 4 + 3) (by omega)).trans f3
        clear hrd hcell f0 f1 f2 f3
        obtain ⟨v, hB, hsl⟩ := HU.out.log
        obtain ⟨A', cap', rfl, hnc, hcm⟩ := hsl.form
        have c1 : wr.cell? ⟨g, 1, none⟩ = some (.slice A' es.length cap') := hB.cell 1
        have hgl : g < wr.heap.size := hB.lt
        have hbl2 : b < wr.heap.size := Nat.lt_of_lt_of_le hbl HU.out.chg.size
        generalize he : e[k] = y at d0 d1 d2 d3
        have HE := Lib.hid he
        clear he
        have HB := Lib.hid hB
        have HSL := Lib.hid hsl
        have hn3 : es.length ≤ 2199023255552 := by have := HU.out.len; omega
        clear hB hsl
        by_cases hz : es.length = 0
        · have hes : es = [] := List.eq_nil_of_length_eq_zero hz
          have hk0 : k = 0 := by
            rcases HU.out.some_ with h1 | h1
            · exact h1
            · exact absurd hes h1
          subst hes
          subst hk0
          simp only [List.length_nil] at c1 hnc hn3
          have HSL : Hid (Sl wr 42 4 (.slice A' 0 cap') h' 0 (flatE [])) := HSL
          have HB : Hid (Blk wr g 60 #[.int .i64 x.most, .slice A' 0 cap', .int .i64 x.floor]) := HB
          have hno : ¬ ∃ z ∈ ([] : List E4).getLast?, y.m < z.m := by simp
          clear hz
          simp only [Nat.zero_mul, Nat.add_zero] at d0 d1 d2 d3
          go_wp2_with fail
          go_quiet (fail)
          go_wp2_with fail
          have q1 : Sl (wr.drewN nq) 42 4 (.slice A' (0) cap') h' (0) (flatE []) := HSL.out.heap rfl
          have q2 : Blk (wr.drewN nq) g 60 #[.int .i64 x.most, .slice A' (0) cap', .int .i64 x.floor] := HB.out.heap rfl
          have q4 : Chg (g :: h.toList) w (wr.drewN nq) := HU.out.chg.drewN _
          have k0 : (wr.drewN nq).cell? ⟨b, off, none⟩ = some (.int .i64 y.m) := d0
          have k1 : (wr.drewN nq).cell? ⟨b, off + 1, none⟩ = some (.int .i64 y.k) := d1
          have k2 : (wr.drewN nq).cell? ⟨b, off + 2, none⟩ = some (.int .i64 y.i) := d2
          have k3 : (wr.drewN nq).cell? ⟨b, off + 3, none⟩ = some (.int .i64 y.h) := d3
          have hbl3 : b < (wr.drewN nq).heap.size := hbl2
          generalize wr.drewN nq = W1 at q1 q2 q4 k0 k1 k2 k3 hbl3 ⊢
          clear d0 d1 d2 d3
          have e1 : W1.cell? ⟨g, 1, none⟩ = some (.slice A' (0) cap') := q2.cell 1
          have e2 : W1.frozen? ⟨g, 1, none⟩ = false := q2.frozen 1
          have hgl1 : g < W1.heap.size := q2.lt
          have hgn : g ∉ h'.toList := fun hm => by
            simp at hm
            exact q1.ne_blk q2 (by decide) g hm rfl
          go_region_law (refine step_append_sl _ (by rfl) (.tmp 68) (.tmp 73) _ (by rfl) Try.underlying43 hi hz0 hz1 hz2 rfl (by omega) ((q1.alloc _).heap (by rfl)) (by simp [Act.eval]) W1.heap.size #[.int .i64 y.m, .int .i64 y.k, .int .i64 y.i, .int .i64 y.h] (e' := 42) (fr := (0, 0)) (heap_alloc_new W1 _) 1 1 (by simp [Act.eval]) (by rfl) (by simp [Value.oneCell']) (by unfold maxLen; omega) (by omega) ?_; intro v2 h2 w2 hs2 hc2 ho2; obtain ⟨A2, cap2, rfl, _, _⟩ := hs2.form; have hf2 : w2.frozen? ⟨g, 1, none⟩ = false := (hc2.frozen (p := ⟨g, 1, none⟩) (by simp; omega) hgn).trans ((World.frozen?_alloc_past _ _ _ hgl1).trans e2); have hf3 : w2.cell? ⟨g, 1, none⟩ = some (.slice A' (0) cap') := (hc2.cell (p := ⟨g, 1, none⟩) (by simp; omega) hgn).trans ((World.cell?_alloc_past _ _ _ hgl1).trans e1))
          all_goals
            have hrel := radd_step HU.out hke HE.out hno q2 q1 q4 hs2 hc2 ho2
            have HREL := Lib.hid hrel
            clear hrel hs2 hc2 ho2
            go_wp2
            refine ⟨?_, by simp [intOf]; try omega⟩
            first | exact ⟨0 + 1, _, _, by omega, by go_num, HREL⟩ | ((repeat apply Exists.intro); exact ⟨⟨0 + 1, _, _, by omega, by go_num, HREL⟩, rfl⟩)
        · obtain ⟨es0, z, rfl⟩ : ∃ es0 z, es = es0 ++ [z] := ⟨es.dropLast, es.getLast (by rintro rfl; simp at hz), (List.dropLast_concat_getLast _).symm⟩
          have hN : (es0 ++ [z]).length = es0.length + 1 := by simp
          rw [hN] at c1 hnc hn3 HB HSL
          obtain ⟨ab, aoff, acap, hh', hva, _, _, hbl3, hat⟩ := HSL.out.at_ (by omega)
          injection hva with hva1 hva2 hva3
          subst hva1
          subst hva3
          clear hva2
          have hzc : wr.cell? ⟨ab, aoff + es0.length * 4, none⟩ = some (.int .i64 z.m) := by
            have h1 := (hat (es0.length * 4) (by omega)).1
            rw [h1]
            have h2 := (flatE_at (es0 ++ [z]) es0.length (by simp)).1
            rw [h2]
            simp
          clear hat
          have hlast : (es0 ++ [z]).getLast? = some z := by simp
          generalize hNN : es0.length = N at c1 hnc hn3 HB HSL hzc
          have HNN := Lib.hid hNN
          clear hNN hN hz
          have ww1 : IntKind.i64.wrap ((N : Int) + 1 - 1) = (N : Int) := by rw [show (N : Int) + 1 - 1 = N from by omega]; exact IntWalk.i64_in _ (by omega)
          have ww2 : IntKind.i64.wrap (N : Int) = (N : Int) := IntWalk.i64_in _ (by omega)
          have hix : (N : Int) < (N : Int) + 1 := by omega
          have hix0 : (0 : Int) ≤ (N : Int) := by omega
          have hz0' : ((N : Int) + 1 == 0) = false := by
            rw [beq_eq_false_iff_ne]
            omega
          by_cases hbr : y.m < z.m
          · have hloop : addLoop x.es e = es0 ++ [z] := by
              rw [HU.out.loop, List.drop_eq_getElem_cons hke, HE.out, addLoop, if_pos]
              rw [hlast]
              simpa using hbr
            have HF := Lib.hid hloop
            have hd : decide (y.m < z.m) = true := by simpa using hbr
            clear hloop
            go_wp2_with fail
            go_quiet (fail)
            go_wp2_with fail
            go_meet
            exact ⟨_, h', HF, ⟨HU.out.log.heap rfl, HU.out.chg.drewN _, HU.out.own⟩, by simp [HNN.out]; omega⟩
          · have hno : ¬ ∃ u ∈ (es0 ++ [z]).getLast?, y.m < u.m := by
              rw [hlast]
              simpa using hbr
            have hd : decide (y.m < z.m) = false := by simpa using hbr
            go_wp2_with fail
            go_quiet (fail)
            go_wp2_with fail
            have q1 : Sl (wr.drewN nq) 42 4 (.slice (some ⟨ab, aoff, none⟩) (N + 1) cap') h' (N + 1) (flatE (es0 ++ [z])) := HSL.out.heap rfl
            have q2 : Blk (wr.drewN nq) g 60 #[.int .i64 x.most, .slice (some ⟨ab, aoff, none⟩) (N + 1) cap', .int .i64 x.floor] := HB.out.heap rfl
            have q4 : Chg (g :: h.toList) w (wr.drewN nq) := HU.out.chg.drewN _
            have k0 : (wr.drewN nq).cell? ⟨b, off + k * 4, none⟩ = some (.int .i64 y.m) := d0
            have k1 : (wr.drewN nq).cell? ⟨b, off + k * 4 + 1, none⟩ = some (.int .i64 y.k) := d1
            have k2 : (wr.drewN nq).cell? ⟨b, off + k * 4 + 2, none⟩ = some (.int .i64 y.i) := d2
            have k3 : (wr.drewN nq).cell? ⟨b, off + k * 4 + 3, none⟩ = some (.int .i64 y.h) := d3
            have hbl3 : b < (wr.drewN nq).heap.size := hbl2
            generalize wr.drewN nq = W1 at q1 q2 q4 k0 k1 k2 k3 hbl3 ⊢
            clear d0 d1 d2 d3
            have e1 : W1.cell? ⟨g, 1, none⟩ = some (.slice (some ⟨ab, aoff, none⟩) (N + 1) cap') := q2.cell 1
            have e2 : W1.frozen? ⟨g, 1, none⟩ = false := q2.frozen 1
            have hgl1 : g < W1.heap.size := q2.lt
            have hgn : g ∉ h'.toList := fun hm => by
              simp at hm
              exact q1.ne_blk q2 (by decide) g hm rfl
            go_region_law (refine step_append_sl _ (by rfl) (.tmp 68) (.tmp 73) _ (by rfl) Try.underlying43 hi hz0 hz1 hz2 rfl (by omega) ((q1.alloc _).heap (by rfl)) (by simp [Act.eval]) W1.heap.size #[.int .i64 y.m, .int .i64 y.k, .int .i64 y.i, .int .i64 y.h] (e' := 42) (fr := (0, 0)) (heap_alloc_new W1 _) 1 1 (by simp [Act.eval]) (by rfl) (by simp [Value.oneCell']) (by unfold maxLen; omega) (by omega) ?_; intro v2 h2 w2 hs2 hc2 ho2; obtain ⟨A2, cap2, rfl, _, _⟩ := hs2.form; have hf2 : w2.frozen? ⟨g, 1, none⟩ = false := (hc2.frozen (p := ⟨g, 1, none⟩) (by simp; omega) hgn).trans ((World.frozen?_alloc_past _ _ _ hgl1).trans e2); have hf3 : w2.cell? ⟨g, 1, none⟩ = some (.slice (some ⟨ab, aoff, none⟩) (N + 1) cap') := (hc2.cell (p := ⟨g, 1, none⟩) (by simp; omega) hgn).trans ((World.cell?_alloc_past _ _ _ hgl1).trans e1))
            all_goals
              have hrel := radd_step HU.out hke HE.out hno q2 q1 q4 hs2 hc2 ho2
              have HREL := Lib.hid hrel
              clear hrel hs2 hc2 ho2
              go_wp2
              refine ⟨?_, by simp [intOf]; try omega⟩
              first | exact ⟨k + 1, _, _, by omega, by go_num, HREL⟩ | ((repeat apply Exists.intro); exact ⟨⟨k + 1, _, _, by omega, by go_num, HREL⟩, rfl⟩)
      · have hkL : k = L := by omega
        subst hkL
        have hloop : addLoop x.es e = es := by
          rw [HU.out.loop, List.drop_of_length_le (by rw [HL.out]; exact Nat.le_refl _)]
          rfl
        have HF := Lib.hid hloop
        clear hloop
        go_wp2_with fail
        go_meet
        exact ⟨_, h', HF, ⟨HU.out.log, HU.out.chg, HU.out.own⟩, by have := HU.out.len; omega⟩
  case rest =>
    obtain ⟨es, h', HF, HG, hlen⟩ := hcut
    obtain ⟨M, hM⟩ : ∃ M : Nat, x.most = (M : Int) := ⟨x.most.toNat, by omega⟩
    have hts : TrimRel w g h x es 0 h' wc := ⟨by simpa [flAt] using HG.out.1, HG.out.2.1, HG.out.2.2⟩
    have HTS := Lib.hid hts
    have HMM := Lib.hid hM
    have hM1 : 1 ≤ M := by omega
    clear HR HS HL hts HG hm1 hm2 hM
    go_wp2_with fail
    go_loopw [] (fun wr => ∃ (j : Nat) (h' : Option Nat), j ≤ es.length - M ∧ Hid (TrimRel w g h x es j h' wr)) (fun wr => lenAt wr g)
    case atStart => exact ⟨0, h', Nat.zero_le _, HTS⟩
    case round =>
      obtain ⟨j, h2, hj, HU⟩ := hrel
      obtain ⟨v, hB, hsl⟩ := HU.out.log
      obtain ⟨A', cap', rfl, hnc, hcm⟩ := hsl.form
      have hdl : (es.drop j).length = es.length - j := by simp
      simp only [hdl, HMM.out] at hB hsl hnc
      have HLA := Lib.hid (HU.out.log.lenAt.trans hdl)
      obtain ⟨n, hn⟩ : ∃ n, es.length - j = n := ⟨_, rfl⟩
      rw [hn] at hB hsl hnc
      have c0 : wr.cell? ⟨g, 0, none⟩ = some (.int .i64 (M : Int)) := hB.cell 0
      have c1 : wr.cell? ⟨g, 1, none⟩ = some (.slice A' n cap') := hB.cell 1
      have hgl : g < wr.heap.size := hB.lt
      by_cases hgt : M < n
      · have hd : decide ((M : Int) < (n : Int)) = true := by simpa using hgt
        have hjl : j < es.length := by omega
        obtain ⟨b, off, cap2, hh, hva, _, _, hbl, hat⟩ := hsl.at_ (by omega)
        injection hva with hva1 hva2 hva3
        subst hva1
        subst hva3
        clear hva2
        have d0 : wr.cell? ⟨b, off, none⟩ = some (.int .i64 es[j].m) := by
          have h1 := (hat 0 (by omega)).1
          rw [Nat.add_zero] at h1
          rw [h1, List.drop_eq_getElem_cons hjl]
          rfl
        have hrest : ∀ i u, (flatE (es.drop (j + 1)))[i]? = some u → wr.cell? ⟨b, off + 4 + i, none⟩ = some u := fun i u hu => by
          have hi2 : i < (n - 1) * 4 := by
            have h1 := (List.getElem?_eq_some_iff.1 hu).1
            rw [flatE_length, List.length_drop] at h1
            omega
          have h1 := (hat (4 + i) (by omega)).1
          rw [← Nat.add_assoc] at h1
          rw [h1, List.drop_eq_getElem_cons hjl, flatE_cons, List.getElem?_append_right (by simp [encE])]
          simpa [encE] using hu
        have q2 := (hB.heap (w' := wr) rfl)
        have HB := Lib.hid hB
        have HREST := Lib.hid hrest
        clear hat hrest hB hsl q2
        have hz : es[j].m = es[j].m := rfl
        generalize hzz : es[j].m = z at d0
        have HZ := Lib.hid hzz
        clear hz hzz
        have hbg : ¬ b = g := fun e => by
          obtain ⟨v3, hB3, hs3⟩ := HU.out.log
          exact hs3.ne_blk hB3 (by decide) b hh e
        have hgb : ¬ g = b := fun e => hbg e.symm
        have hm1 : 0 < n := by omega
        have hc1 : (1 : Int) ≤ (n : Int) := by omega
        have hflr : n - 1 = es.length - (j + 1) := by omega
        have hn4 : n - 1 ≤ 2199023255552 := by omega
        have hlenR : (flatE (es.drop (j + 1))).length = (n - 1) * 4 := by rw [flatE_length, List.length_drop]; omega
        have HLR := Lib.hid hlenR
        have HFLR := Lib.hid hflr
        clear hlenR hflr
        go_wp2_with fail
        go_quiet (fail)
        have HU1 := Lib.hid (HU.out.heap nq rfl)
        have HB1 : Hid (Blk (wr.drewN nq) g 60 #[.int .i64 (M : Int), .slice (some ⟨b, off, none⟩) n cap', .int .i64 (flAt es x.floor j)]) := Lib.hid (HB.out.heap rfl)
        have HREST1 : Hid (∀ i u, (flatE (es.drop (j + 1)))[i]? = some u → (wr.drewN nq).cell? ⟨b, off + 4 + i, none⟩ = some u) := HREST
        have d1 : (wr.drewN nq).cell? ⟨b, off, none⟩ = some (.int .i64 z) := d0
        have hbl1 : b < (wr.drewN nq).heap.size := hbl
        generalize wr.drewN nq = W1 at HU1 HB1 HREST1 d1 hbl1 ⊢
        clear d0 c0 c1
        have e0 : W1.cell? ⟨g, 0, none⟩ = some (.int .i64 (M : Int)) := HB1.out.cell 0
        have e1 : W1.cell? ⟨g, 1, none⟩ = some (.slice (some ⟨b, off, none⟩) n cap') := HB1.out.cell 1
        have e2 : W1.cell? ⟨g, 2, none⟩ = some (.int .i64 (flAt es x.floor j)) := HB1.out.cell 2
        have e3 : W1.frozen? ⟨g, 1, none⟩ = false := HB1.out.frozen 1
        have e4 : W1.frozen? ⟨g, 2, none⟩ = false := HB1.out.frozen 2
        have hgl1 : g < W1.heap.size := HB1.out.lt
        go_wp2_with (at_builtin; refine wpList_append_slA _ rfl _ _ 43 rfl Try.underlying43 hi hz0 hz1 hz2 rfl (by decide) (slOwn_empty (W1.setCell ⟨g, 2, none⟩ (.int .i64 z)) 42 4) ?_ ⟨b, off + 4, none⟩ (n - 1) (cap' - 1) (flatE (es.drop (j + 1))) ?_ HLR.out ?_ (flatE_one _) ?_ ?_ ?_)
        · simp [Act.eval]
        · simp [Act.eval]
        · intro i u hu
          have hblk : ((W1.setCell ⟨g, 2, none⟩ (.int .i64 z)).alloc (.cells #[] 42)).heap[b]? = W1.heap[b]? :=
            (Below.heap_alloc _ _ b (by simpa [World.setCell] using hbl1)).trans (Below.heap_setCell W1 _ _ b hbg)
          rw [Addr.add_lit]
          exact (World.cell?_of_block (a := ⟨b, off + 4 + i, none⟩) hblk).trans (HREST1.out i u hu)
        · unfold maxLen
          omega
        · omega
        · intro v2 h3 w2 hs2 hc2 ho2
          obtain ⟨A2, cap2, rfl, _, _⟩ := hs2.form
          have hB2 := ((HB1.out.set 2 (.int .i64 z)).alloc (.cells #[] 42)).chg hc2 (by simp; omega)
          have f1 : w2.cell? ⟨g, 1, none⟩ = some (.slice (some ⟨b, off, none⟩) n cap') := hB2.cell 1
          have f2 : w2.frozen? ⟨g, 1, none⟩ = false := hB2.frozen 1
          have q := trim_step HU1.out hjl HZ.out HMM.out HB1.out HFLR.out hs2 (by
            rcases ho2 with h4 | ⟨k, h4, h5⟩
            · exact ⟨_, h4, Nat.le_refl _⟩
            · exact ⟨k, h4, by omega⟩) hc2
          have HQ := Lib.hid q
          have HLN := Lib.hid (q.log.lenAt)
          clear q hB2 hs2 hc2 ho2
          go_wp2
          have hml : lenAt (w2.setCell ⟨g, 1, none⟩ (.slice A2 (n - 1) cap2)) g < lenAt wr g := by
            rw [HLN.out, HLA.out]
            simp only [List.length_drop]
            omega
          refine ⟨?_, hml⟩
          first | exact ⟨j + 1, _, by omega, HQ⟩ | ((repeat apply Exists.intro); exact ⟨⟨j + 1, _, by omega, HQ⟩, rfl⟩)
      · have hd : decide ((M : Int) < (n : Int)) = false := by simpa using hgt
        have hadd := add_trimmed x e es j HF.out (by rw [HMM.out]; omega) (by rw [HMM.out]; omega)
        have HADD := Lib.hid hadd
        clear hadd hB hsl
        go_wp2_with fail
        go_quiet (fail)
        go_wp2
        go_end0
        refine ⟨rfl, h2, ?_, HU.out.chg.drewN _, HU.out.own⟩
        rw [HADD.out]
        exact HU.out.log.heap rfl

end Go.Proofs.Ytkgpflobbmagaaa
