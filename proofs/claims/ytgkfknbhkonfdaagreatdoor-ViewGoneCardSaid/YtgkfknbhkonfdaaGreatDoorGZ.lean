/-
  The walk of the reference's Log.Add.
  The reference's account in memory: as the program's (XStoreAt, XStoreMem), with another struct and another log. Printed by gen_refat.py.
  The walk of the reference's Atom.
  The walks of store.New and of the reference's New at any config.
-/
import Derived.Test.YtgkfknbhkonfdaaGreatDoorGA
import Derived.Test.YtgkfknbhkonfdaaGreatDoorGD
import Derived.Test.YtgkfknbhkonfdaaGreatDoorGB
namespace Go.Proofs.YtgkfknbhkonfdaaGreatDoor
open Go.RowKit
attribute [local go_sem ↓] Go.wp_at_zero Go.wp_at_succ

/-- A log of the reference's in memory. -/
def RLogAt (w : World) (g : Nat) (h : Option Nat) (x : LogV) : Prop :=
  ∃ v, Blk w g 174 #[.int .i64 x.most, v, .int .i64 x.floor] ∧ Sl w 144 4 v h x.es.length (flatE x.es)
theorem RLogAt.chg {w w' : World} {g : Nat} {h : Option Nat} {x : LogV} {S : List Nat} (hl : RLogAt w g h x) (hc : Chg S w w') (hg : g ∉ S) (hh : ∀ b, h = some b → b ∉ S) : RLogAt w' g h x := by
  obtain ⟨v, h1, h2⟩ := hl
  exact ⟨v, h1.chg hc hg, h2.chg hc hh⟩
theorem RLogAt.heap {w w' : World} {g : Nat} {h : Option Nat} {x : LogV} (hl : RLogAt w g h x) (he : w'.heap = w.heap) : RLogAt w' g h x := by
  obtain ⟨v, h1, h2⟩ := hl
  exact ⟨v, h1.heap he, h2.heap he⟩

structure RAddRel (w : World) (g : Nat) (h : Option Nat) (x : LogV) (e : List E4) (k : Nat) (es : List E4) (h' : Option Nat) (wr : World) : Prop where
  loop : addLoop x.es e = addLoop es (e.drop k)
  len : es.length ≤ x.es.length + k
  some_ : k = 0 ∨ es ≠ []
  log : RLogAt wr g h' ⟨x.most, es, x.floor⟩
  chg : Chg (g :: h.toList) w wr
  own : h' = h ∨ ∃ k, h' = some k ∧ w.heap.size ≤ k

theorem radd_step {w wr W1 w2 : World} {g : Nat} {h h' h2 : Option Nat} {x : LogV} {e es : List E4} {k : Nat} {y : E4} {A' A2 : Option Addr} {n m cap' cap2 : Nat} {o : Obj}
    (hu : RAddRel w g h x e k es h' wr) (hk : k < e.length) (hy : e[k] = y) (hno : ¬ ∃ z ∈ es.getLast?, y.m < z.m)
    (q2 : Blk W1 g 174 #[.int .i64 x.most, .slice A' n cap', .int .i64 x.floor]) (q1 : Sl W1 144 4 (.slice A' n cap') h' n (flatE es)) (q4 : Chg (g :: h.toList) w W1)
    (hs2 : Sl w2 144 4 (.slice A2 m cap2) h2 (n + 1) (flatE es ++ (#[.int .i64 y.m, .int .i64 y.k, .int .i64 y.i, .int .i64 y.h] : Array Value).toList))
    (hc2 : Chg h'.toList (W1.alloc o).drew w2) (ho2 : h2 = h' ∨ ∃ g, h2 = some g ∧ (W1.alloc o).drew.heap.size ≤ g) :
    RAddRel w g h x e (k + 1) (es ++ [y]) h2 (w2.setCell ⟨g, 1, none⟩ (.slice A2 m cap2)) := by
  have hsz : (W1.alloc o).drew.heap.size = W1.heap.size + 1 := by simp
  have hgn : g ∉ h'.toList := fun hm => by
    simp at hm
    exact q1.ne_blk q2 (by decide) g hm rfl
  have hw1 : w.heap.size ≤ W1.heap.size := q4.size
  have hB2 : Blk w2 g 174 #[.int .i64 x.most, .slice A' n cap', .int .i64 x.floor] := ((q2.alloc o).heap rfl : Blk (W1.alloc o).drew g _ _).chg hc2 hgn
  have hfl : flatE es ++ (#[.int .i64 y.m, .int .i64 y.k, .int .i64 y.i, .int .i64 y.h] : Array Value).toList = flatE (es ++ [y]) := by rw [flatE_append]; rfl
  rw [hfl] at hs2
  have hne2 : h2 ≠ some g := by
    intro hh
    exact hs2.ne_blk hB2 (by decide) g hh rfl
  have hn : n = es.length := by have := q1.1; rw [flatE_length] at this; omega
  have hm : m = n + 1 := by
    obtain ⟨A3, c3, hv, _⟩ := hs2.form
    injection hv
  subst hm
  subst hn
  have hchg : Chg (g :: h.toList) w w2 := by
    refine (((q4.alloc o).drew).trans hc2 fun i hi => ?_)
    simp at hi
    rcases hu.own with h1 | ⟨k1, h1, h3⟩
    · rw [h1] at hi
      exact .inl (by simp [hi])
    · rw [h1] at hi
      simp at hi
      subst hi
      exact .inr h3
  refine ⟨?_, ?_, .inr (by simp), ⟨_, hB2.set 1 _, ?_⟩, hchg.set (.inl (by simp)) _, ?_⟩
  · rw [hu.loop, List.drop_eq_getElem_cons hk, hy, addLoop, if_neg hno]
  · have := hu.len
    simp only [List.length_append, List.length_cons, List.length_nil]
    omega
  · have h3 := hs2.far (p := ⟨g, 1, none⟩) hne2 (.slice A2 (es.length + 1) cap2)
    have hl : (es ++ [y]).length = es.length + 1 := by simp
    rw [hl]
    exact h3
  · rcases ho2 with h1 | ⟨k1, h1, h3⟩
    · rw [h1]
      exact hu.own
    · exact .inr ⟨k1, h1, by omega⟩

/-- The floor behind j forgotten. -/
def flAt (es : List E4) (fl : Int) (j : Nat) : Int := if j = 0 then fl else (es[j - 1]?.getD default).m
theorem add_trimmed (x : LogV) (e es : List E4) (j : Nat) (hF : addLoop x.es e = es) (hj : (j : Int) ≤ max 0 ((es.length : Int) - x.most)) (hstop : (es.length : Int) - j ≤ x.most) : x.add e = ⟨x.most, es.drop j, flAt es x.floor j⟩ := by
  unfold LogV.add
  rw [hF]
  by_cases h : (es.length : Int) - x.most > 0
  · have hjj : ((es.length : Int) - x.most).toNat = j := by omega
    rw [if_pos h, hjj]
    unfold flAt
    rw [if_neg (by omega)]
  · have hj0 : j = 0 := by omega
    subst hj0
    rw [if_neg h]
    rfl

/-- Memory in the second loop. -/
structure TrimRel (w : World) (g : Nat) (h : Option Nat) (x : LogV) (es : List E4) (j : Nat) (h' : Option Nat) (wr : World) : Prop where
  log : RLogAt wr g h' ⟨x.most, es.drop j, flAt es x.floor j⟩
  chg : Chg (g :: h.toList) w wr
  own : h' = h ∨ ∃ k, h' = some k ∧ w.heap.size ≤ k

/-- How long the list is that the log's block holds. -/
def lenAt (w : World) (g : Nat) : Nat := match w.cell? ⟨g, 1, none⟩ with
  | some (.slice _ n _) => n
  | _ => 0
theorem RLogAt.lenAt {w : World} {g : Nat} {h : Option Nat} {x : LogV} (hl : RLogAt w g h x) : lenAt w g = x.es.length := by
  obtain ⟨v, hB, hs⟩ := hl
  obtain ⟨A, cap, rfl, _, _⟩ := hs.form
  have c1 : w.cell? ⟨g, 1, none⟩ = some (.slice A x.es.length cap) := hB.cell 1
  unfold Proofs.YtgkfknbhkonfdaaGreatDoor.lenAt
  rw [c1]
theorem TrimRel.heap {w wr w' : World} {g : Nat} {h h' : Option Nat} {x : LogV} {es : List E4} {j : Nat} (q : TrimRel w g h x es j h' wr) (n : Nat) (e : w' = wr.drewN n) : TrimRel w g h x es j h' w' := by
  subst e
  exact ⟨q.log.heap rfl, q.chg.drewN n, q.own⟩

theorem trim_step {w wr w2 : World} {g : Nat} {h h' h2 : Option Nat} {x : LogV} {es : List E4} {j M : Nat} {A2 : Option Addr} {n m cap2 : Nat} {v : Value} {o : Obj} {z : Int}
    (hu : TrimRel w g h x es j h' wr) (hj : j < es.length) (hz : es[j].m = z) (hM : x.most = (M : Int)) (q2 : Blk wr g 174 #[.int .i64 M, v, .int .i64 (flAt es x.floor j)])
    (hn : n = es.length - (j + 1))
    (hs2 : Sl w2 144 4 (.slice A2 m cap2) h2 n (flatE (es.drop (j + 1)))) (hfr : ∃ b, h2 = some b ∧ wr.heap.size ≤ b)
    (hc2 : Chg [wr.heap.size] ((wr.setCell ⟨g, 2, none⟩ (.int .i64 z)).alloc o) w2) :
    TrimRel w g h x es (j + 1) h2 (w2.setCell ⟨g, 1, none⟩ (.slice A2 m cap2)) := by
  have hg : g < wr.heap.size := q2.lt
  have hw := hu.chg.size
  have hB2 : Blk w2 g 174 #[.int .i64 M, v, .int .i64 z] := ((q2.set 2 (.int .i64 z)).alloc o).chg hc2 (by simp; omega)
  have hne2 : h2 ≠ some g := fun hh => hs2.ne_blk hB2 (by decide) g hh rfl
  have hfl : flAt es x.floor (j + 1) = z := by
    unfold flAt
    rw [if_neg (by omega)]
    simp [hj, hz]
  have hlen : (es.drop (j + 1)).length = n := by rw [List.length_drop, hn]
  refine ⟨⟨.slice A2 m cap2, ?_, ?_⟩, ?_, ?_⟩
  · rw [hfl, hM]
    exact hB2.set 1 _
  · simp only [hlen]
    exact hs2.far (p := ⟨g, 1, none⟩) hne2 _
  · have h1 : Chg (g :: h.toList) w ((wr.setCell ⟨g, 2, none⟩ (.int .i64 z)).alloc o) := (hu.chg.set (p := ⟨g, 2, none⟩) (.inl (by simp)) _).alloc o
    exact (h1.trans hc2 (fun i hi => by simp at hi; subst hi; exact .inr hw)).set (p := ⟨g, 1, none⟩) (.inl (by simp)) _
  · obtain ⟨b, hb, hb2⟩ := hfr
    exact .inr ⟨b, hb, by omega⟩

set_option maxRecDepth 100000 in
set_option maxHeartbeats 1000000 in
theorem refAdd_any (w : World) (g : Nat) (h : Option Nat) (x : LogV) (A : Option Addr) (cap : Nat) (e : List E4) (hl : RLogAt w g h x) (hm1 : 1 ≤ x.most) (hm2 : x.most ≤ 1099511627776)
    (hn1 : x.es.length ≤ 1099511627776) (hn2 : e.length ≤ 1099511627776) (hr : RdE w A (g :: h.toList) e) :
    Calls Tryz.prog 140 #[.pointer (some ⟨g, 0, none⟩), .slice A e.length cap] w fun e' w' => e' = .returned (.tuple #[]) ∧
      ∃ h', RLogAt w' g h' (x.add e) ∧ Chg (g :: h.toList) w w' ∧ (h' = h ∨ ∃ k, h' = some k ∧ w.heap.size ≤ k) := by
  obtain ⟨i0, hi, hz0, hz1, hz2⟩ := info_parts Try.infoEntry
  have hstart : RAddRel w g h x e 0 x.es h w := ⟨rfl, by omega, .inl rfl, hl, Chg.refl _ _, .inl rfl⟩
  have HS := Lib.hid hstart
  clear hstart hl
  have HR := Lib.hid hr
  clear hr
  obtain ⟨L, hL⟩ : ∃ L, e.length = L := ⟨_, rfl⟩
  rw [hL]
  rw [hL] at hn2
  have HL := Lib.hid hL
  clear hL
  go_enter Tryz.func140, Tryz.ntmps140
  go_upto_block 0 with (fail)
  go_cut [] (fun wx => ∃ (es : List E4) (h' : Option Nat), Hid (addLoop x.es e = es) ∧ Hid (RLogAt wx g h' ⟨x.most, es, x.floor⟩ ∧ Chg (g :: h.toList) w wx ∧ (h' = h ∨ ∃ k, h' = some k ∧ w.heap.size ≤ k)) ∧ es.length ≤ 2199023255552)
  case first =>
    go_wp2_with fail
    go_loopw [4] (fun i wr => ∃ (k : Nat) (es : List E4) (h' : Option Nat), k ≤ L ∧ i = .int .i64 k ∧ Hid (RAddRel w g h x e k es h' wr)) (fun i _ => L - (intOf i).toNat)
    case atStart => exact ⟨0, _, _, Nat.zero_le _, rfl, HS⟩
    case round =>
      obtain ⟨k, es, h', hk, rfl, HU⟩ := hrel
      by_cases hlt : k < L
      · have hke : k < e.length := by rw [HL.out]; exact hlt
        obtain ⟨b, off, rfl, hbl, hbn, hcell⟩ := HR.out (by rintro rfl; simp at hke)
        have hrd : ∀ j, j < e.length * 4 → wr.cell? ⟨b, off + j, none⟩ = (flatE e)[j]? := fun j hj => (HU.out.chg.cell (p := ⟨b, off + j, none⟩) hbl hbn).trans (hcell j hj)
        obtain ⟨f0, f1, f2, f3⟩ := flatE_at e k hke
        have d0 : wr.cell? ⟨b, off + k * 4, none⟩ = some (.int .i64 e[k].m) := (hrd (k * 4) (by omega)).trans f0
        have d1 : wr.cell? ⟨b, off + k * 4 + 1, none⟩ = some (.int .i64 e[k].k) := (hrd (k * 4 + 1) (by omega)).trans f1
        have d2 : wr.cell? ⟨b, off + k * 4 + 2, none⟩ = some (.int .i64 e[k].i) := (hrd (k * 4 + 2) (by omega)).trans f2
        have d3 : wr.cell? ⟨b, off + k * 4 + 3, none⟩ = some (.int .i64 e[k].h) := (hrd (k * 4 + 3) (by omega)).trans f3
        clear hrd hcell f0 f1 f2 f3
        obtain ⟨v, hB, hsl⟩ := HU.out.log
        obtain ⟨A', cap', rfl, hnc, hcm⟩ := hsl.form
        have c1 : wr.cell? ⟨g, 1, none⟩ = some (.slice A' es.length cap') := hB.cell 1
        have hgl : g < wr.heap.size := hB.lt
        have hbl2 : b < wr.heap.size := Nat.lt_of_lt_of_le hbl HU.out.chg.size
        generalize he : e[k] = y at d0 d1 d2 d3
        have HE := Lib.hid he
        clear he
        have HB := Lib.hid hB
        have HSL := Lib.hid hsl
        have hn3 : es.length ≤ 2199023255552 := by have := HU.out.len; omega
        clear hB hsl
        by_cases hz : es.length = 0
        · have hes : es = [] := List.eq_nil_of_length_eq_zero hz
          have hk0 : k = 0 := by
            rcases HU.out.some_ with h1 | h1
            · exact h1
            · exact absurd hes h1
          subst hes
          subst hk0
          simp only [List.length_nil] at c1 hnc hn3
          have HSL : Hid (Sl wr 144 4 (.slice A' 0 cap') h' 0 (flatE [])) := HSL
          have HB : Hid (Blk wr g 174 #[.int .i64 x.most, .slice A' 0 cap', .int .i64 x.floor]) := HB
          have hno : ¬ ∃ z ∈ ([] : List E4).getLast?, y.m < z.m := by simp
          clear hz
          simp only [Nat.zero_mul, Nat.add_zero] at d0 d1 d2 d3
          go_wp2_with fail
          go_quiet (fail)
          go_wp2_with fail
          have q1 : Sl (wr.drewN nq) 144 4 (.slice A' (0) cap') h' (0) (flatE []) := HSL.out.heap rfl
          have q2 : Blk (wr.drewN nq) g 174 #[.int .i64 x.most, .slice A' (0) cap', .int .i64 x.floor] := HB.out.heap rfl
          have q4 : Chg (g :: h.toList) w (wr.drewN nq) := HU.out.chg.drewN _
          have k0 : (wr.drewN nq).cell? ⟨b, off, none⟩ = some (.int .i64 y.m) := d0
          have k1 : (wr.drewN nq).cell? ⟨b, off + 1, none⟩ = some (.int .i64 y.k) := d1
          have k2 : (wr.drewN nq).cell? ⟨b, off + 2, none⟩ = some (.int .i64 y.i) := d2
          have k3 : (wr.drewN nq).cell? ⟨b, off + 3, none⟩ = some (.int .i64 y.h) := d3
          have hbl3 : b < (wr.drewN nq).heap.size := hbl2
          generalize wr.drewN nq = W1 at q1 q2 q4 k0 k1 k2 k3 hbl3 ⊢
          clear d0 d1 d2 d3
          have e1 : W1.cell? ⟨g, 1, none⟩ = some (.slice A' (0) cap') := q2.cell 1
          have e2 : W1.frozen? ⟨g, 1, none⟩ = false := q2.frozen 1
          have hgl1 : g < W1.heap.size := q2.lt
          have hgn : g ∉ h'.toList := fun hm => by
            simp at hm
            exact q1.ne_blk q2 (by decide) g hm rfl
          go_region_law (refine step_append_sl _ (by rfl) (.tmp 68) (.tmp 73) _ (by rfl) Tryz.underlying141 hi hz0 hz1 hz2 rfl (by omega) ((q1.alloc _).heap (by rfl)) (by simp [Act.eval]) W1.heap.size #[.int .i64 y.m, .int .i64 y.k, .int .i64 y.i, .int .i64 y.h] (e' := 144) (fr := (0, 0)) (heap_alloc_new W1 _) 1 1 (by simp [Act.eval]) (by rfl) (by simp [Value.oneCell']) (by unfold maxLen; omega) (by omega) ?_; intro v2 h2 w2 hs2 hc2 ho2; obtain ⟨A2, cap2, rfl, _, _⟩ := hs2.form; have hf2 : w2.frozen? ⟨g, 1, none⟩ = false := (hc2.frozen (p := ⟨g, 1, none⟩) (by simp; omega) hgn).trans ((World.frozen?_alloc_past _ _ _ hgl1).trans e2); have hf3 : w2.cell? ⟨g, 1, none⟩ = some (.slice A' (0) cap') := (hc2.cell (p := ⟨g, 1, none⟩) (by simp; omega) hgn).trans ((World.cell?_alloc_past _ _ _ hgl1).trans e1))
          all_goals
            have hrel := radd_step HU.out hke HE.out hno q2 q1 q4 hs2 hc2 ho2
            have HREL := Lib.hid hrel
            clear hrel hs2 hc2 ho2
            go_wp2
            refine ⟨?_, by simp [intOf]; try omega⟩
            first | exact ⟨0 + 1, _, _, by omega, by go_num, HREL⟩ | ((repeat apply Exists.intro); exact ⟨⟨0 + 1, _, _, by omega, by go_num, HREL⟩, rfl⟩)
        · obtain ⟨es0, z, rfl⟩ : ∃ es0 z, es = es0 ++ [z] := ⟨es.dropLast, es.getLast (by rintro rfl; simp at hz), (List.dropLast_concat_getLast _).symm⟩
          have hN : (es0 ++ [z]).length = es0.length + 1 := by simp
          rw [hN] at c1 hnc hn3 HB HSL
          obtain ⟨ab, aoff, acap, hh', hva, _, _, hbl3, hat⟩ := HSL.out.at_ (by omega)
          injection hva with hva1 hva2 hva3
          subst hva1
          subst hva3
          clear hva2
          have hzc : wr.cell? ⟨ab, aoff + es0.length * 4, none⟩ = some (.int .i64 z.m) := by
            have h1 := (hat (es0.length * 4) (by omega)).1
            rw [h1]
            have h2 := (flatE_at (es0 ++ [z]) es0.length (by simp)).1
            rw [h2]
            simp
          clear hat
          have hlast : (es0 ++ [z]).getLast? = some z := by simp
          generalize hNN : es0.length = N at c1 hnc hn3 HB HSL hzc
          have HNN := Lib.hid hNN
          clear hNN hN hz
          have ww1 : IntKind.i64.wrap ((N : Int) + 1 - 1) = (N : Int) := by rw [show (N : Int) + 1 - 1 = N from by omega]; exact IntWalk.i64_in _ (by omega)
          have ww2 : IntKind.i64.wrap (N : Int) = (N : Int) := IntWalk.i64_in _ (by omega)
          have hix : (N : Int) < (N : Int) + 1 := by omega
          have hix0 : (0 : Int) ≤ (N : Int) := by omega
          have hz0' : ((N : Int) + 1 == 0) = false := by
            rw [beq_eq_false_iff_ne]
            omega
          by_cases hbr : y.m < z.m
          · have hloop : addLoop x.es e = es0 ++ [z] := by
              rw [HU.out.loop, List.drop_eq_getElem_cons hke, HE.out, addLoop, if_pos]
              rw [hlast]
              simpa using hbr
            have HF := Lib.hid hloop
            have hd : decide (y.m < z.m) = true := by simpa using hbr
            clear hloop
            go_wp2_with fail
            go_quiet (fail)
            go_wp2_with fail
            go_meet
            exact ⟨_, h', HF, ⟨HU.out.log.heap rfl, HU.out.chg.drewN _, HU.out.own⟩, by simp [HNN.out]; omega⟩
          · have hno : ¬ ∃ u ∈ (es0 ++ [z]).getLast?, y.m < u.m := by
              rw [hlast]
              simpa using hbr
            have hd : decide (y.m < z.m) = false := by simpa using hbr
            go_wp2_with fail
            go_quiet (fail)
            go_wp2_with fail
            have q1 : Sl (wr.drewN nq) 144 4 (.slice (some ⟨ab, aoff, none⟩) (N + 1) cap') h' (N + 1) (flatE (es0 ++ [z])) := HSL.out.heap rfl
            have q2 : Blk (wr.drewN nq) g 174 #[.int .i64 x.most, .slice (some ⟨ab, aoff, none⟩) (N + 1) cap', .int .i64 x.floor] := HB.out.heap rfl
            have q4 : Chg (g :: h.toList) w (wr.drewN nq) := HU.out.chg.drewN _
            have k0 : (wr.drewN nq).cell? ⟨b, off + k * 4, none⟩ = some (.int .i64 y.m) := d0
            have k1 : (wr.drewN nq).cell? ⟨b, off + k * 4 + 1, none⟩ = some (.int .i64 y.k) := d1
            have k2 : (wr.drewN nq).cell? ⟨b, off + k * 4 + 2, none⟩ = some (.int .i64 y.i) := d2
            have k3 : (wr.drewN nq).cell? ⟨b, off + k * 4 + 3, none⟩ = some (.int .i64 y.h) := d3
            have hbl3 : b < (wr.drewN nq).heap.size := hbl2
            generalize wr.drewN nq = W1 at q1 q2 q4 k0 k1 k2 k3 hbl3 ⊢
            clear d0 d1 d2 d3
            have e1 : W1.cell? ⟨g, 1, none⟩ = some (.slice (some ⟨ab, aoff, none⟩) (N + 1) cap') := q2.cell 1
            have e2 : W1.frozen? ⟨g, 1, none⟩ = false := q2.frozen 1
            have hgl1 : g < W1.heap.size := q2.lt
            have hgn : g ∉ h'.toList := fun hm => by
              simp at hm
              exact q1.ne_blk q2 (by decide) g hm rfl
            go_region_law (refine step_append_sl _ (by rfl) (.tmp 68) (.tmp 73) _ (by rfl) Tryz.underlying141 hi hz0 hz1 hz2 rfl (by omega) ((q1.alloc _).heap (by rfl)) (by simp [Act.eval]) W1.heap.size #[.int .i64 y.m, .int .i64 y.k, .int .i64 y.i, .int .i64 y.h] (e' := 144) (fr := (0, 0)) (heap_alloc_new W1 _) 1 1 (by simp [Act.eval]) (by rfl) (by simp [Value.oneCell']) (by unfold maxLen; omega) (by omega) ?_; intro v2 h2 w2 hs2 hc2 ho2; obtain ⟨A2, cap2, rfl, _, _⟩ := hs2.form; have hf2 : w2.frozen? ⟨g, 1, none⟩ = false := (hc2.frozen (p := ⟨g, 1, none⟩) (by simp; omega) hgn).trans ((World.frozen?_alloc_past _ _ _ hgl1).trans e2); have hf3 : w2.cell? ⟨g, 1, none⟩ = some (.slice (some ⟨ab, aoff, none⟩) (N + 1) cap') := (hc2.cell (p := ⟨g, 1, none⟩) (by simp; omega) hgn).trans ((World.cell?_alloc_past _ _ _ hgl1).trans e1))
            all_goals
              have hrel := radd_step HU.out hke HE.out hno q2 q1 q4 hs2 hc2 ho2
              have HREL := Lib.hid hrel
              clear hrel hs2 hc2 ho2
              go_wp2
              refine ⟨?_, by simp [intOf]; try omega⟩
              first | exact ⟨k + 1, _, _, by omega, by go_num, HREL⟩ | ((repeat apply Exists.intro); exact ⟨⟨k + 1, _, _, by omega, by go_num, HREL⟩, rfl⟩)
      · have hkL : k = L := by omega
        subst hkL
        have hloop : addLoop x.es e = es := by
          rw [HU.out.loop, List.drop_of_length_le (by rw [HL.out]; exact Nat.le_refl _)]
          rfl
        have HF := Lib.hid hloop
        clear hloop
        go_wp2_with fail
        go_meet
        exact ⟨_, h', HF, ⟨HU.out.log, HU.out.chg, HU.out.own⟩, by have := HU.out.len; omega⟩
  case rest =>
    obtain ⟨es, h', HF, HG, hlen⟩ := hcut
    obtain ⟨M, hM⟩ : ∃ M : Nat, x.most = (M : Int) := ⟨x.most.toNat, by omega⟩
    have hts : TrimRel w g h x es 0 h' wc := ⟨by simpa [flAt] using HG.out.1, HG.out.2.1, HG.out.2.2⟩
    have HTS := Lib.hid hts
    have HMM := Lib.hid hM
    have hM1 : 1 ≤ M := by omega
    clear HR HS HL hts HG hm1 hm2 hM
    go_wp2_with fail
    go_loopw [] (fun wr => ∃ (j : Nat) (h' : Option Nat), j ≤ es.length - M ∧ Hid (TrimRel w g h x es j h' wr)) (fun wr => lenAt wr g)
    case atStart => exact ⟨0, h', Nat.zero_le _, HTS⟩
    case round =>
      obtain ⟨j, h2, hj, HU⟩ := hrel
      obtain ⟨v, hB, hsl⟩ := HU.out.log
      obtain ⟨A', cap', rfl, hnc, hcm⟩ := hsl.form
      have hdl : (es.drop j).length = es.length - j := by simp
      simp only [hdl, HMM.out] at hB hsl hnc
      have HLA := Lib.hid (HU.out.log.lenAt.trans hdl)
      obtain ⟨n, hn⟩ : ∃ n, es.length - j = n := ⟨_, rfl⟩
      rw [hn] at hB hsl hnc
      have c0 : wr.cell? ⟨g, 0, none⟩ = some (.int .i64 (M : Int)) := hB.cell 0
      have c1 : wr.cell? ⟨g, 1, none⟩ = some (.slice A' n cap') := hB.cell 1
      have hgl : g < wr.heap.size := hB.lt
      by_cases hgt : M < n
      · have hd : decide ((M : Int) < (n : Int)) = true := by simpa using hgt
        have hjl : j < es.length := by omega
        obtain ⟨b, off, cap2, hh, hva, _, _, hbl, hat⟩ := hsl.at_ (by omega)
        injection hva with hva1 hva2 hva3
        subst hva1
        subst hva3
        clear hva2
        have d0 : wr.cell? ⟨b, off, none⟩ = some (.int .i64 es[j].m) := by
          have h1 := (hat 0 (by omega)).1
          rw [Nat.add_zero] at h1
          rw [h1, List.drop_eq_getElem_cons hjl]
          rfl
        have hrest : ∀ i u, (flatE (es.drop (j + 1)))[i]? = some u → wr.cell? ⟨b, off + 4 + i, none⟩ = some u := fun i u hu => by
          have hi2 : i < (n - 1) * 4 := by
            have h1 := (List.getElem?_eq_some_iff.1 hu).1
            rw [flatE_length, List.length_drop] at h1
            omega
          have h1 := (hat (4 + i) (by omega)).1
          rw [← Nat.add_assoc] at h1
          rw [h1, List.drop_eq_getElem_cons hjl, flatE_cons, List.getElem?_append_right (by simp [encE])]
          simpa [encE] using hu
        have q2 := (hB.heap (w' := wr) rfl)
        have HB := Lib.hid hB
        have HREST := Lib.hid hrest
        clear hat hrest hB hsl q2
        have hz : es[j].m = es[j].m := rfl
        generalize hzz : es[j].m = z at d0
        have HZ := Lib.hid hzz
        clear hz hzz
        have hbg : ¬ b = g := fun e => by
          obtain ⟨v3, hB3, hs3⟩ := HU.out.log
          exact hs3.ne_blk hB3 (by decide) b hh e
        have hgb : ¬ g = b := fun e => hbg e.symm
        have hm1 : 0 < n := by omega
        have hc1 : (1 : Int) ≤ (n : Int) := by omega
        have hflr : n - 1 = es.length - (j + 1) := by omega
        have hn4 : n - 1 ≤ 2199023255552 := by omega
        have hlenR : (flatE (es.drop (j + 1))).length = (n - 1) * 4 := by rw [flatE_length, List.length_drop]; omega
        have HLR := Lib.hid hlenR
        have HFLR := Lib.hid hflr
        clear hlenR hflr
        go_wp2_with fail
        go_quiet (fail)
        have HU1 := Lib.hid (HU.out.heap nq rfl)
        have HB1 : Hid (Blk (wr.drewN nq) g 174 #[.int .i64 (M : Int), .slice (some ⟨b, off, none⟩) n cap', .int .i64 (flAt es x.floor j)]) := Lib.hid (HB.out.heap rfl)
        have HREST1 : Hid (∀ i u, (flatE (es.drop (j + 1)))[i]? = some u → (wr.drewN nq).cell? ⟨b, off + 4 + i, none⟩ = some u) := HREST
        have d1 : (wr.drewN nq).cell? ⟨b, off, none⟩ = some (.int .i64 z) := d0
        have hbl1 : b < (wr.drewN nq).heap.size := hbl
        generalize wr.drewN nq = W1 at HU1 HB1 HREST1 d1 hbl1 ⊢
        clear d0 c0 c1
        have e0 : W1.cell? ⟨g, 0, none⟩ = some (.int .i64 (M : Int)) := HB1.out.cell 0
        have e1 : W1.cell? ⟨g, 1, none⟩ = some (.slice (some ⟨b, off, none⟩) n cap') := HB1.out.cell 1
        have e2 : W1.cell? ⟨g, 2, none⟩ = some (.int .i64 (flAt es x.floor j)) := HB1.out.cell 2
        have e3 : W1.frozen? ⟨g, 1, none⟩ = false := HB1.out.frozen 1
        have e4 : W1.frozen? ⟨g, 2, none⟩ = false := HB1.out.frozen 2
        have hgl1 : g < W1.heap.size := HB1.out.lt
        go_wp2_with (at_builtin; refine wpList_append_slA _ rfl _ _ 141 rfl Tryz.underlying141 hi hz0 hz1 hz2 rfl (by decide) (slOwn_empty (W1.setCell ⟨g, 2, none⟩ (.int .i64 z)) 144 4) ?_ ⟨b, off + 4, none⟩ (n - 1) (cap' - 1) (flatE (es.drop (j + 1))) ?_ HLR.out ?_ (flatE_one _) ?_ ?_ ?_)
        · simp [Act.eval]
        · simp [Act.eval]
        · intro i u hu
          have hblk : ((W1.setCell ⟨g, 2, none⟩ (.int .i64 z)).alloc (.cells #[] 144)).heap[b]? = W1.heap[b]? :=
            (Below.heap_alloc _ _ b (by simpa [World.setCell] using hbl1)).trans (Below.heap_setCell W1 _ _ b hbg)
          rw [Addr.add_lit]
          exact (World.cell?_of_block (a := ⟨b, off + 4 + i, none⟩) hblk).trans (HREST1.out i u hu)
        · unfold maxLen
          omega
        · omega
        · intro v2 h3 w2 hs2 hc2 ho2
          obtain ⟨A2, cap2, rfl, _, _⟩ := hs2.form
          have hB2 := ((HB1.out.set 2 (.int .i64 z)).alloc (.cells #[] 144)).chg hc2 (by simp; omega)
          have f1 : w2.cell? ⟨g, 1, none⟩ = some (.slice (some ⟨b, off, none⟩) n cap') := hB2.cell 1
          have f2 : w2.frozen? ⟨g, 1, none⟩ = false := hB2.frozen 1
          have q := trim_step HU1.out hjl HZ.out HMM.out HB1.out HFLR.out hs2 (by
            rcases ho2 with h4 | ⟨k, h4, h5⟩
            · exact ⟨_, h4, Nat.le_refl _⟩
            · exact ⟨k, h4, by omega⟩) hc2
          have HQ := Lib.hid q
          have HLN := Lib.hid (q.log.lenAt)
          clear q hB2 hs2 hc2 ho2
          go_wp2
          have hml : lenAt (w2.setCell ⟨g, 1, none⟩ (.slice A2 (n - 1) cap2)) g < lenAt wr g := by
            rw [HLN.out, HLA.out]
            simp only [List.length_drop]
            omega
          refine ⟨?_, hml⟩
          first | exact ⟨j + 1, _, by omega, HQ⟩ | ((repeat apply Exists.intro); exact ⟨⟨j + 1, _, by omega, HQ⟩, rfl⟩)
      · have hd : decide ((M : Int) < (n : Int)) = false := by simpa using hgt
        have hadd := add_trimmed x e es j HF.out (by rw [HMM.out]; omega) (by rw [HMM.out]; omega)
        have HADD := Lib.hid hadd
        clear hadd hB hsl
        go_wp2_with fail
        go_quiet (fail)
        go_wp2
        go_end0
        refine ⟨rfl, h2, ?_, HU.out.chg.drewN _, HU.out.own⟩
        rw [HADD.out]
        exact HU.out.log.heap rfl

end Go.Proofs.YtgkfknbhkonfdaaGreatDoor

namespace Go.Proofs.YtgkfknbhkonfdaaGreatDoor
open Go.RowKit

def cellsR (q : Lies) (x : Acc) : List Value := cellsC x.cfg ++ [.int .i64 x.clock, q.vb, q.vm, .pointer (some ⟨q.gl, 0, none⟩), .int .i64 x.lastBox, .int .i64 x.lastId]
structure RStoreAt (w : World) (g : Nat) (q : Lies) (x : Acc) : Prop where
  blk : Blk w g 156 (cellsR q x).toArray
  log : RLogAt w q.gl q.hl x.log
  boxes : Sl w 80 6 q.vb q.hb x.boxes.length (flatG encB x.boxes)
  same : q.ms.map (·.p) = x.mails
  mails : Sl w 90 8 q.vm q.hm x.mails.length (flatG encM q.ms)
  parts : ∀ m ∈ q.ms, PartAt w (q.own g) m

section
variable {w w' : World} {g : Nat} {q : Lies} {x : Acc} {S T : List Nat} {m : MailM}

theorem RStoreAt.lt (h : RStoreAt w g q x) : ∀ k ∈ q.own g, k < w.heap.size := by
  intro k hk
  obtain ⟨v, hl1, hl2⟩ := h.log
  simp only [Lies.own, List.mem_cons, List.mem_append, Option.mem_toList] at hk
  rcases hk with rfl | rfl | (hk | hk) | hk
  · exact h.blk.lt
  · exact hl1.lt
  · exact hl2.lt k hk
  · exact h.boxes.lt k hk
  · exact h.mails.lt k hk
/-- Where nothing of what was there has turned. -/
theorem RStoreAt.later (h : RStoreAt w g q x) (hb : Below w.heap.size w w') : RStoreAt w' g q x := by
  have hc : Chg [] w w' := Chg.of_below hb []
  refine ⟨h.blk.chg hc (by simp), h.log.chg hc (by simp) (by simp), h.boxes.chg hc (by simp), h.same, h.mails.chg hc (by simp), fun m hm => (h.parts m hm).keep hb.size (fun b hb2 _ => hb.block b hb2) (fun _ _ h => h)⟩
theorem RStoreAt.heap (h : RStoreAt w g q x) (he : w'.heap = w.heap) (e1 : w'.os = w.os) (e2 : w'.tape = w.tape) (e3 : w'.output = w.output) : RStoreAt w' g q x :=
  h.later ⟨e1, e2, e3, by rw [he]; exact Nat.le_refl _, fun k _ => by rw [he]⟩
theorem RStoreAt.alloc (h : RStoreAt w g q x) (o : Obj) : RStoreAt (w.alloc o) g q x := h.later ((Below.refl _ w).alloc (Nat.le_refl _) o)
theorem RStoreAt.drewN (h : RStoreAt w g q x) (n : Nat) : RStoreAt (w.drewN n) g q x := h.heap rfl rfl rfl rfl

/-- The struct's cells. -/
theorem RStoreAt.cells (h : RStoreAt w g q x) (j : Nat) : w.cell? ⟨g, j, none⟩ = (cellsR q x)[j]? := by
  rw [h.blk.cell]
  simp
theorem RStoreAt.cell9 (h : RStoreAt w g q x) : w.cell? ⟨g, 9, none⟩ = some (.int .i64 x.clock) := h.cells 9
theorem RStoreAt.cell10 (h : RStoreAt w g q x) : w.cell? ⟨g, 10, none⟩ = some q.vb := h.cells 10
theorem RStoreAt.cell11 (h : RStoreAt w g q x) : w.cell? ⟨g, 11, none⟩ = some q.vm := h.cells 11
theorem RStoreAt.cell12 (h : RStoreAt w g q x) : w.cell? ⟨g, 12, none⟩ = some (.pointer (some ⟨q.gl, 0, none⟩)) := h.cells 12
theorem RStoreAt.cell13 (h : RStoreAt w g q x) : w.cell? ⟨g, 13, none⟩ = some (.int .i64 x.lastBox) := h.cells 13
theorem RStoreAt.cell14 (h : RStoreAt w g q x) : w.cell? ⟨g, 14, none⟩ = some (.int .i64 x.lastId) := h.cells 14
theorem RStoreAt.frozen (h : RStoreAt w g q x) (j : Nat) : w.frozen? ⟨g, j, none⟩ = false := h.blk.frozen j
end

/-- How one call leaves an account: another account, where no block but its own, and new ones, have turned. -/
structure RTurned (w w' : World) (g : Nat) (q : Lies) (x' : Acc) (q' : Lies) : Prop where
  at_ : RStoreAt w' g q' x'
  chg : Chg (q.own g) w w'
  own : ∀ k ∈ q'.own g, k ∈ q.own g ∨ w.heap.size ≤ k

section
variable {w w' w'' : World} {g : Nat} {q q' q'' : Lies} {x x' x'' : Acc}
theorem RTurned.refl (h : RStoreAt w g q x) : RTurned w w g q x q := ⟨h, Chg.refl _ _, fun _ h => .inl h⟩
theorem RTurned.of_below (h : RStoreAt w g q x) (hb : Below w.heap.size w w') : RTurned w w' g q x q := ⟨h.later hb, Chg.of_below hb _, fun _ h => .inl h⟩
theorem RTurned.trans (h : RTurned w w' g q x' q') (k : RTurned w' w'' g q' x'' q'') : RTurned w w'' g q x'' q'' :=
  ⟨k.at_, h.chg.trans k.chg h.own, fun i hi => by
    rcases k.own i hi with h1 | h1
    · exact h.own i h1
    · exact .inr (Nat.le_trans h.chg.size h1)⟩
end

/-- An account of the law's own. -/
structure OwnRef (w wr : World) (g : Nat) (q : Lies) (x : Acc) : Prop where
  at_ : RStoreAt wr g q x
  below : Below w.heap.size w wr
  own : ∀ k ∈ q.own g, w.heap.size ≤ k
section
variable {w wr w' : World} {g : Nat} {q q' : Lies} {x x' : Acc}
theorem OwnRef.later (h : OwnRef w wr g q x) (hb : Below wr.heap.size wr w') : OwnRef w w' g q x := ⟨h.at_.later hb, h.below.trans (hb.mono h.below.size), h.own⟩
theorem OwnRef.turned (h : OwnRef w wr g q x) (k : RTurned wr w' g q x' q') : OwnRef w w' g q' x' :=
  ⟨k.at_, h.below.trans (k.chg.below h.below.size h.own), fun i hi => by
    rcases k.own i hi with h1 | h1
    · exact h.own i h1
    · exact Nat.le_trans h.below.size h1⟩
end

section
variable {w w' : World} {g : Nat} {q q' : Lies} {x x' : Acc}
theorem RStoreAt.apart (h : RStoreAt w g q x) : Apart g q := by
  obtain ⟨v, hl1, hl2⟩ := h.log
  exact ⟨h.blk.ne hl1 (by decide), fun e => hl2.ne_blk h.blk (by decide) g e rfl, fun e => h.boxes.ne_blk h.blk (by decide) g e rfl, fun e => h.mails.ne_blk h.blk (by decide) g e rfl, fun e => h.boxes.ne_blk hl1 (by decide) _ e rfl, fun e => h.mails.ne_blk hl1 (by decide) _ e rfl,
    fun e => hl2.ne_blk hl1 (by decide) _ e rfl, hl2.ne_sl h.boxes (by decide), hl2.ne_sl h.mails (by decide), h.boxes.ne_sl h.mails (by decide)⟩
/-- A cell of the struct stored. -/
theorem RStoreAt.setStruct (h : RStoreAt w g q x) (j : Nat) (u : Value) (x' : Acc) (hcells : cellsR q x' = (cellsR q x).set j u) (hb : x'.boxes = x.boxes) (hm : x'.mails = x.mails) (hl : x'.log = x.log) : RTurned w (w.setCell ⟨g, j, none⟩ u) g q x' q := by
  have ha := h.apart
  have hc : Chg [g] w (w.setCell ⟨g, j, none⟩ u) := (Chg.refl [g] w).set (.inl (by simp)) u
  have hco : Chg (q.own g) w (w.setCell ⟨g, j, none⟩ u) := hc.mono fun k hk => by
    simp only [List.mem_singleton] at hk
    subst hk
    exact .inl Lies.own_g
  refine ⟨⟨?_, ?_, ?_, ?_, ?_, fun m hmm => (h.parts m hmm).step hco (fun k hk => .inl hk)⟩, hco, fun k hk => .inl hk⟩
  · have := h.blk.set j u
    rw [show (cellsR q x').toArray = (cellsR q x).toArray.setIfInBounds j u from by rw [hcells]; simp]
    exact this
  · rw [hl]
    exact h.log.chg hc (by simpa using fun e => ha.gl e.symm) (fun b hb => by
      simp only [List.mem_singleton]
      rintro rfl
      exact ha.hl hb)
  · rw [hb]
    exact h.boxes.far (p := ⟨g, j, none⟩) ha.hb u
  · rw [hm]
    exact h.same
  · rw [hm]
    exact h.mails.far (p := ⟨g, j, none⟩) ha.hm u

/-- A cell of a mailbox stored. -/
theorem RStoreAt.setBoxCell (h : RStoreAt w g q x) {b off n cap : Nat} (hv : q.vb = .slice (some ⟨b, off, none⟩) n cap) (i : Nat) (hi : i < x.boxes.length) (j : Nat) (hj : j < 6) (u : Value) (y : BoxP) (hy : encB y = (encB x.boxes[i]).set j u) :
    RTurned w (w.setCell ⟨b, off + i * 6 + j, none⟩ u) g q { x with boxes := x.boxes.set i y } q := by
  have ha := h.apart
  have hsb := h.boxes
  rw [hv] at hsb
  have hn : n = x.boxes.length := by
    obtain ⟨A, c, hv2, _⟩ := hsb.form
    injection hv2
  subst hn
  have hbb : q.hb = some b := by
    obtain ⟨b', off', cap', hh, hv2, _⟩ := hsb.at_ (by omega)
    injection hv2 with e1
    injection e1 with e2
    injection e2 with e3
    rw [hh, e3]
  have hgb : g ≠ b := fun e => ha.hb (by rw [hbb, e])
  have hc : Chg [b] w (w.setCell ⟨b, off + i * 6 + j, none⟩ u) := (Chg.refl [b] w).set (.inl (by simp)) u
  have hco : Chg (q.own g) w (w.setCell ⟨b, off + i * 6 + j, none⟩ u) := hc.mono fun k hk => by
    simp only [List.mem_singleton] at hk
    subst hk
    exact .inl (Lies.own_hb hbb)
  refine ⟨⟨h.blk.far (p := ⟨b, off + i * 6 + j, none⟩) hgb u, ?_, ?_, h.same, ?_, fun m hmm => (h.parts m hmm).step hco (fun k hk => .inl hk)⟩, hco, fun k hk => .inl hk⟩
  · exact h.log.chg hc (by simp only [List.mem_singleton]; rintro e; exact ha.lb (by rw [hbb, e])) (fun k hk => by
      simp only [List.mem_singleton]
      rintro rfl
      exact ha.eb _ hk hbb)
  · have h1 := hsb.store (i * 6 + j) u
    rw [flatG_set encB_length x.boxes i j hi hj u y hy] at h1
    rw [hv]
    show Sl _ _ 6 _ q.hb (x.boxes.set i y).length (flatG encB (x.boxes.set i y))
    rw [List.length_set]
    rw [← Nat.add_assoc] at h1
    exact h1
  · exact h.mails.far (p := ⟨b, off + i * 6 + j, none⟩) (fun e => ha.bm b hbb e) u

/-- The log turned. -/
theorem RStoreAt.setLog (h : RStoreAt w g q x) {l : LogV} {hl' : Option Nat} (hl : RLogAt w' q.gl hl' l) (hc : Chg (q.gl :: q.hl.toList) w w') (ho : hl' = q.hl ∨ ∃ k, hl' = some k ∧ w.heap.size ≤ k) : RTurned w w' g q { x with log := l } { q with hl := hl' } := by
  have ha := h.apart
  have hco : Chg (q.own g) w w' := hc.mono fun k hk => by
    rcases List.mem_cons.1 hk with rfl | hk
    · exact .inl Lies.own_gl
    · exact .inl (Lies.own_hl (by simpa using hk))
  have hown : ∀ k ∈ ({ q with hl := hl' } : Lies).own g, k ∈ q.own g ∨ w.heap.size ≤ k := by
    intro k hk
    simp only [Lies.own, List.mem_cons, List.mem_append, Option.mem_toList] at hk ⊢
    rcases hk with h1 | h1 | (h1 | h1) | h1
    · exact .inl (.inl h1)
    · exact .inl (.inr (.inl h1))
    · rcases ho with h2 | ⟨k2, h2, h3⟩
      · rw [h2] at h1
        exact .inl (.inr (.inr (.inl (.inl h1))))
      · rw [h2] at h1
        injection h1 with h1
        exact .inr (by omega)
    · exact .inl (.inr (.inr (.inl (.inr h1))))
    · exact .inl (.inr (.inr (.inr h1)))
  refine ⟨⟨?_, hl, ?_, h.same, ?_, fun m hmm => (h.parts m hmm).step hco hown⟩, hco, hown⟩
  · exact h.blk.chg hc (by
      simp only [List.mem_cons, Option.mem_toList, not_or]
      exact ⟨ha.gl, ha.hl⟩)
  · exact h.boxes.chg hc (fun b hb => by
      simp only [List.mem_cons, Option.mem_toList, not_or]
      exact ⟨fun e => ha.lb (by rw [hb, e]), fun e => ha.eb b e hb⟩)
  · exact h.mails.chg hc (fun b hb => by
      simp only [List.mem_cons, Option.mem_toList, not_or]
      exact ⟨fun e => ha.lm (by rw [hb, e]), fun e => ha.em b e hb⟩)

/-- A mailbox more: the slice that an append handed back is stored. -/
theorem RStoreAt.pushBox (h : RStoreAt w g q x) (y : BoxP) {v' : Value} {h' : Option Nat} (hs : Sl w' 80 6 v' h' (x.boxes.length + 1) (flatG encB x.boxes ++ encB y)) (hc : Chg q.hb.toList w w') (ho : h' = q.hb ∨ ∃ k, h' = some k ∧ w.heap.size ≤ k) :
    RTurned w (w'.setCell ⟨g, 10, none⟩ v') g q { x with boxes := x.boxes ++ [y] } { q with hb := h', vb := v' } := by
  have ha := h.apart
  have hgl : g < w.heap.size := h.blk.lt
  have hnew : ∀ k, h' = some k → (q.hb = some k) ∨ w.heap.size ≤ k := by
    intro k hk
    rcases ho with h2 | ⟨k2, h2, h3⟩
    · exact .inl (by rw [← h2]; exact hk)
    · rw [h2] at hk
      injection hk with hk
      exact .inr (by omega)
  have hgh : h' ≠ some g := fun e => by
    rcases hnew g e with h1 | h1
    · exact ha.hb h1
    · omega
  have hco : Chg (q.own g) w (w'.setCell ⟨g, 10, none⟩ v') := (hc.mono fun k hk => .inl (Lies.own_hb (by simpa using hk))).set (p := ⟨g, 10, none⟩) (.inl Lies.own_g) v'
  have hown : ∀ k ∈ ({ q with hb := h', vb := v' } : Lies).own g, k ∈ q.own g ∨ w.heap.size ≤ k := by
    intro k hk
    simp only [Lies.own, List.mem_cons, List.mem_append, Option.mem_toList] at hk ⊢
    rcases hk with h1 | h1 | (h1 | h1) | h1
    · exact .inl (.inl h1)
    · exact .inl (.inr (.inl h1))
    · exact .inl (.inr (.inr (.inl (.inl h1))))
    · rcases hnew k h1 with h2 | h2
      · exact .inl (.inr (.inr (.inl (.inr h2))))
      · exact .inr h2
    · exact .inl (.inr (.inr (.inr h1)))
  have hc2 : Chg (g :: q.hb.toList) w (w'.setCell ⟨g, 10, none⟩ v') := (hc.mono fun k hk => .inl (List.mem_cons_of_mem _ hk)).set (.inl (by simp)) v'
  refine ⟨⟨?_, ?_, ?_, h.same, ?_, fun m hmm => (h.parts m hmm).step hco hown⟩, hco, hown⟩
  · have hB := (h.blk.chg hc (by simpa using ha.hb)).set 10 v'
    exact hB
  · exact h.log.chg hc2 (by
      simp only [List.mem_cons, Option.mem_toList, not_or]
      exact ⟨fun e => ha.gl e.symm, ha.lb⟩) (fun b hb => by
      simp only [List.mem_cons, Option.mem_toList, not_or]
      exact ⟨fun e => ha.hl (by rw [hb, e]), ha.eb b hb⟩)
  · have h1 := hs.far (p := ⟨g, 10, none⟩) hgh v'
    show Sl _ _ 6 v' h' (x.boxes ++ [y]).length (flatG encB (x.boxes ++ [y]))
    rw [List.length_append, List.length_singleton, flatG_snoc]
    exact h1
  · exact h.mails.chg hc2 (fun b hb => by
      simp only [List.mem_cons, Option.mem_toList, not_or]
      exact ⟨fun e => ha.hm (by rw [hb, e]), fun e => ha.bm b e hb⟩)

/-- An email more. -/
theorem RStoreAt.pushMail (h : RStoreAt w g q x) (m : MailM) {v' : Value} {h' : Option Nat} (hp : PartAt w (q.own g) m) (hs : Sl w' 90 8 v' h' (x.mails.length + 1) (flatG encM q.ms ++ encM m)) (hc : Chg q.hm.toList w w') (ho : h' = q.hm ∨ ∃ k, h' = some k ∧ w.heap.size ≤ k) :
    RTurned w (w'.setCell ⟨g, 11, none⟩ v') g q { x with mails := x.mails ++ [m.p] } { q with hm := h', vm := v', ms := q.ms ++ [m] } := by
  have ha := h.apart
  have hgl : g < w.heap.size := h.blk.lt
  have hnew : ∀ k, h' = some k → (q.hm = some k) ∨ w.heap.size ≤ k := by
    intro k hk
    rcases ho with h2 | ⟨k2, h2, h3⟩
    · exact .inl (by rw [← h2]; exact hk)
    · rw [h2] at hk
      injection hk with hk
      exact .inr (by omega)
  have hgh : h' ≠ some g := fun e => by
    rcases hnew g e with h1 | h1
    · exact ha.hm h1
    · omega
  have hco : Chg (q.own g) w (w'.setCell ⟨g, 11, none⟩ v') := (hc.mono fun k hk => .inl (Lies.own_hm (by simpa using hk))).set (p := ⟨g, 11, none⟩) (.inl Lies.own_g) v'
  have hown : ∀ k ∈ ({ q with hm := h', vm := v', ms := q.ms ++ [m] } : Lies).own g, k ∈ q.own g ∨ w.heap.size ≤ k := by
    intro k hk
    simp only [Lies.own, List.mem_cons, List.mem_append, Option.mem_toList] at hk ⊢
    rcases hk with h1 | h1 | (h1 | h1) | h1
    · exact .inl (.inl h1)
    · exact .inl (.inr (.inl h1))
    · exact .inl (.inr (.inr (.inl (.inl h1))))
    · exact .inl (.inr (.inr (.inl (.inr h1))))
    · rcases hnew k h1 with h2 | h2
      · exact .inl (.inr (.inr (.inr h2)))
      · exact .inr h2
  have hc2 : Chg (g :: q.hm.toList) w (w'.setCell ⟨g, 11, none⟩ v') := (hc.mono fun k hk => .inl (List.mem_cons_of_mem _ hk)).set (.inl (by simp)) v'
  refine ⟨⟨?_, ?_, ?_, ?_, ?_, fun a ha2 => ?_⟩, hco, hown⟩
  · have hB := (h.blk.chg hc (by simpa using ha.hm)).set 11 v'
    exact hB
  · exact h.log.chg hc2 (by
      simp only [List.mem_cons, Option.mem_toList, not_or]
      exact ⟨fun e => ha.gl e.symm, ha.lm⟩) (fun b hb => by
      simp only [List.mem_cons, Option.mem_toList, not_or]
      exact ⟨fun e => ha.hl (by rw [hb, e]), ha.em b hb⟩)
  · exact h.boxes.chg hc2 (fun b hb => by
      simp only [List.mem_cons, Option.mem_toList, not_or]
      exact ⟨fun e => ha.hb (by rw [hb, e]), ha.bm b hb⟩)
  · show (q.ms ++ [m]).map (·.p) = x.mails ++ [m.p]
    rw [List.map_append, h.same]
    rfl
  · have h1 := hs.far (p := ⟨g, 11, none⟩) hgh v'
    show Sl _ _ 8 v' h' (x.mails ++ [m.p]).length (flatG encM (q.ms ++ [m]))
    rw [List.length_append, List.length_singleton, flatG_snoc]
    exact h1
  · rcases List.mem_append.1 ha2 with h1 | h1
    · exact (h.parts a h1).step hco hown
    · rw [List.mem_singleton] at h1
      subst h1
      exact hp.step hco hown

/-- Where there is a mailbox: its cells. -/
theorem RStoreAt.boxAt (h : RStoreAt w g q x) (i : Nat) (hi : i < x.boxes.length) : ∃ b off cap, q.vb = .slice (some ⟨b, off, none⟩) x.boxes.length cap ∧ q.hb = some b ∧ x.boxes.length ≤ cap ∧ cap ≤ maxLen ∧ b < w.heap.size ∧
    ∀ j, j < 6 → w.cell? ⟨b, off + i * 6 + j, none⟩ = (encB x.boxes[i])[j]? ∧ w.frozen? ⟨b, off + i * 6 + j, none⟩ = false := by
  obtain ⟨b, off, cap, hh, hv, h1, h2, h3, hat⟩ := h.boxes.at_ (by omega)
  refine ⟨b, off, cap, hv, hh, h1, h2, h3, fun j hj => ?_⟩
  have hlt : i * 6 + j < x.boxes.length * 6 := by omega
  obtain ⟨c1, c2⟩ := hat (i * 6 + j) hlt
  rw [← Nat.add_assoc] at c1 c2
  exact ⟨c1.trans (flatG_get encB_length x.boxes i j hi hj), c2⟩
theorem RStoreAt.msLen (h : RStoreAt w g q x) : q.ms.length = x.mails.length := by
  rw [← h.same, List.length_map]
theorem RStoreAt.msAt (h : RStoreAt w g q x) (i : Nat) (hi : i < x.mails.length) (hi2 : i < q.ms.length) : q.ms[i].p = x.mails[i] := by
  have h1 := h.same
  have h2 : (q.ms.map (·.p))[i]? = x.mails[i]? := by rw [h1]
  rw [List.getElem?_map, List.getElem?_eq_getElem hi2, List.getElem?_eq_getElem hi] at h2
  exact Option.some.inj h2
/-- Where there is an email: its cells. -/
theorem RStoreAt.mailAt (h : RStoreAt w g q x) (i : Nat) (hi : i < x.mails.length) (hi2 : i < q.ms.length) : ∃ b off cap, q.vm = .slice (some ⟨b, off, none⟩) x.mails.length cap ∧ q.hm = some b ∧ x.mails.length ≤ cap ∧ cap ≤ maxLen ∧ b < w.heap.size ∧
    ∀ j, j < 8 → w.cell? ⟨b, off + i * 8 + j, none⟩ = (encM q.ms[i])[j]? ∧ w.frozen? ⟨b, off + i * 8 + j, none⟩ = false := by
  obtain ⟨b, off, cap, hh, hv, h1, h2, h3, hat⟩ := h.mails.at_ (by omega)
  refine ⟨b, off, cap, hv, hh, h1, h2, h3, fun j hj => ?_⟩
  have hlt : i * 8 + j < x.mails.length * 8 := by omega
  obtain ⟨c1, c2⟩ := hat (i * 8 + j) hlt
  rw [← Nat.add_assoc] at c1 c2
  exact ⟨c1.trans (flatG_get encM_length q.ms i j hi2 hj), c2⟩
/-- A cell of an email stored. -/
theorem RStoreAt.setMailCell (h : RStoreAt w g q x) {b off n cap : Nat} (hv : q.vm = .slice (some ⟨b, off, none⟩) n cap) (i : Nat) (hi : i < x.mails.length) (hi2 : i < q.ms.length) (j : Nat) (hj : j < 8) (u : Value) (m : MailM) (hm : encM m = (encM q.ms[i]).set j u) (hp : PartAt w (q.own g) m) :
    RTurned w (w.setCell ⟨b, off + i * 8 + j, none⟩ u) g q { x with mails := x.mails.set i m.p } { q with ms := q.ms.set i m } := by
  have ha := h.apart
  have hsb := h.mails
  rw [hv] at hsb
  have hn : n = x.mails.length := by
    obtain ⟨A, c, hv2, _⟩ := hsb.form
    injection hv2
  subst hn
  have hbb : q.hm = some b := by
    obtain ⟨b', off', cap', hh, hv2, _⟩ := hsb.at_ (by omega)
    injection hv2 with e1
    injection e1 with e2
    injection e2 with e3
    rw [hh, e3]
  have hgb : g ≠ b := fun e => ha.hm (by rw [hbb, e])
  have hc : Chg [b] w (w.setCell ⟨b, off + i * 8 + j, none⟩ u) := (Chg.refl [b] w).set (.inl (by simp)) u
  have hco : Chg (q.own g) w (w.setCell ⟨b, off + i * 8 + j, none⟩ u) := hc.mono fun k hk => by
    simp only [List.mem_singleton] at hk
    subst hk
    exact .inl (Lies.own_hm hbb)
  have hown : ∀ k ∈ ({ q with ms := q.ms.set i m } : Lies).own g, k ∈ q.own g ∨ w.heap.size ≤ k := fun k hk => .inl hk
  refine ⟨⟨h.blk.far (p := ⟨b, off + i * 8 + j, none⟩) hgb u, ?_, ?_, ?_, ?_, fun a ha2 => ?_⟩, hco, hown⟩
  · exact h.log.chg hc (by simp only [List.mem_singleton]; rintro e; exact ha.lm (by rw [hbb, e])) (fun k hk => by
      simp only [List.mem_singleton]
      rintro rfl
      exact ha.em _ hk hbb)
  · exact h.boxes.far (p := ⟨b, off + i * 8 + j, none⟩) (fun e => ha.bm b e hbb) u
  · show (q.ms.set i m).map (·.p) = x.mails.set i m.p
    rw [List.map_set, h.same]
  · have h1 := hsb.store (i * 8 + j) u
    rw [flatG_set encM_length q.ms i j hi2 hj u m hm] at h1
    rw [hv]
    show Sl _ _ 8 _ q.hm (x.mails.set i m.p).length (flatG encM (q.ms.set i m))
    rw [List.length_set]
    rw [← Nat.add_assoc] at h1
    exact h1
  · rcases List.mem_or_eq_of_mem_set ha2 with h1 | h1
    · exact (h.parts a h1).step hco hown
    · subst h1
      exact hp.step hco hown

/-- A block of another type, that is none of the account's, turns: the account stands. -/
theorem RStoreAt.other (h : RStoreAt w g q x) {b : Nat} {e : TypeId} {cs : Array Value} (hB : Blk w b e cs) (h1 : e ≠ 9) (h2 : e ≠ 138) (hb : b ∉ q.own g) (hc : Chg [b] w w') : RStoreAt w' g q x := by
  have hnb : ∀ k ∈ q.own g, k ∉ [b] := fun k hk hm => hb (by rw [← List.mem_singleton.1 hm]; exact hk)
  refine ⟨h.blk.chg hc (hnb g Lies.own_g), h.log.chg hc (hnb _ Lies.own_gl) (fun k hk => hnb k (Lies.own_hl hk)), h.boxes.chg hc (fun k hk => hnb k (Lies.own_hb hk)), h.same, h.mails.chg hc (fun k hk => hnb k (Lies.own_hm hk)), fun m hm => ?_⟩
  have hp := h.parts m hm
  have hp2 : PartAt w (b :: q.own g) m := ⟨hp.keys.other hp.tk hB (fun e => h1 e.symm), hp.mem.other hp.tm hB (fun e => h2 e.symm), hp.tk, hp.tm⟩
  exact hp2.keep hc.size (fun k hk hn => hc.block k hk (fun hm => hn (by rw [List.mem_singleton.1 hm]; simp))) (fun k _ hn hk => hn (List.mem_cons_of_mem _ hk))
end

end Go.Proofs.YtgkfknbhkonfdaaGreatDoor

namespace Go.Proofs.YtgkfknbhkonfdaaGreatDoor
open Go.RowKit Go.Sort
attribute [local go_sem ↓] Go.wp_at_zero Go.wp_at_succ

theorem atomB_all : ∀ n, n < 256 → atomB (UInt8.ofNat n) = (decide (33 ≤ n) && decide (n ≤ 126) && !(n == 40) && !(n == 41) && !(n == 123) && !(n == 125) && !(n == 37) && !(n == 42) && !(n == 34) && !(n == 92) && !(n == 93)) := by decide +kernel
theorem atomB_is (c : UInt8) : atomB c = (decide (33 ≤ c.toNat) && decide (c.toNat ≤ 126) && !(c.toNat == 40) && !(c.toNat == 41) && !(c.toNat == 123) && !(c.toNat == 125) && !(c.toNat == 37) && !(c.toNat == 42) && !(c.toNat == 34) && !(c.toNat == 92) && !(c.toNat == 93)) := by
  have h := atomB_all c.toNat c.toNat_lt
  rw [UInt8.ofNat_toNat] at h
  exact h

set_option maxRecDepth 100000 in
set_option maxHeartbeats 4000000 in
theorem refAtom_any (s : ByteArray) (w : World) (hs : s.size ≤ 140737488351232) :
    Calls Tryz.prog 93 #[.string s] w fun e w' => e = .returned (.bool (atomL s.data.toList)) ∧ w = w' := by
  obtain ⟨b, hb⟩ : ∃ b, atomL s.data.toList = b := ⟨_, rfl⟩
  rw [hb]
  have HB0 := Lib.hid hb
  clear hb
  go_enter Tryz.func93, Tryz.ntmps93
  go_wp2_with fail
  go_loop [3] (fun i => ∃ k : Nat, k ≤ s.size ∧ i = .int .i64 k ∧ Hid ((s.data.toList.take k).all atomB = true)) (fun i => s.size - (intOf i).toNat)
  case atStart => exact ⟨0, Nat.zero_le _, rfl, rfl⟩
  case round =>
    obtain ⟨k, hk, rfl, hall⟩ := hrel
    by_cases hlt : k < s.size
    · have H := Lib.hid hall
      clear hall
      have HNO := Lib.hid (fun h => HB0.out.symm.trans (atom_no s k hlt h))
      have HYES := Lib.hid (atom_take s k hlt H.out.out)
      have hat := atomB_is s[k]
      have HAT := Lib.hid hat
      clear hat
      by_cases c0 : (s[k].toNat : Int) < 33
      · have hf : decide (33 ≤ s[k].toNat) = false := decide_eq_false (by omega)
        have hn : b = false := HNO.out (by rw [HAT.out, hf]; simp)
        subst hn
        clear HNO HYES HAT hf HB0
        go_wp2_with fail
        go_ret
        exact ⟨rfl, rfl⟩
      · have p0 : decide (33 ≤ s[k].toNat) = true := decide_eq_true (by omega)
        have P0 := Lib.hid p0
        clear p0
        by_cases c1 : 126 < (s[k].toNat : Int)
        · have hf : decide (s[k].toNat ≤ 126) = false := decide_eq_false (by omega)
          have hn : b = false := HNO.out (by rw [HAT.out, hf]; simp)
          subst hn
          clear HNO HYES HAT hf HB0
          go_wp2_with fail
          go_ret
          exact ⟨rfl, rfl⟩
        · have p1 : decide (s[k].toNat ≤ 126) = true := decide_eq_true (by omega)
          have P1 := Lib.hid p1
          clear p1
          by_cases c2 : s[k].toNat = 40
          · have hf : (s[k].toNat == 40) = true := by simpa using c2
            have hn : b = false := HNO.out (by rw [HAT.out, hf]; simp)
            subst hn
            have d2 : ((s[k].toNat : Int) == 40) = true := by rw [beq_iff_eq]; omega
            clear HNO HYES HAT hf HB0 c2
            go_wp2_with fail
            go_ret
            exact ⟨rfl, rfl⟩
          · have p2 : (s[k].toNat == 40) = false := by simpa using c2
            have d2 : ((s[k].toNat : Int) == 40) = false := by rw [beq_eq_false_iff_ne]; omega
            clear c2
            have P2 := Lib.hid p2
            clear p2
            by_cases c3 : s[k].toNat = 41
            · have hf : (s[k].toNat == 41) = true := by simpa using c3
              have hn : b = false := HNO.out (by rw [HAT.out, hf]; simp)
              subst hn
              have d3 : ((s[k].toNat : Int) == 41) = true := by rw [beq_iff_eq]; omega
              clear HNO HYES HAT hf HB0 c3
              go_wp2_with fail
              go_ret
              exact ⟨rfl, rfl⟩
            · have p3 : (s[k].toNat == 41) = false := by simpa using c3
              have d3 : ((s[k].toNat : Int) == 41) = false := by rw [beq_eq_false_iff_ne]; omega
              clear c3
              have P3 := Lib.hid p3
              clear p3
              by_cases c4 : s[k].toNat = 123
              · have hf : (s[k].toNat == 123) = true := by simpa using c4
                have hn : b = false := HNO.out (by rw [HAT.out, hf]; simp)
                subst hn
                have d4 : ((s[k].toNat : Int) == 123) = true := by rw [beq_iff_eq]; omega
                clear HNO HYES HAT hf HB0 c4
                go_wp2_with fail
                go_ret
                exact ⟨rfl, rfl⟩
              · have p4 : (s[k].toNat == 123) = false := by simpa using c4
                have d4 : ((s[k].toNat : Int) == 123) = false := by rw [beq_eq_false_iff_ne]; omega
                clear c4
                have P4 := Lib.hid p4
                clear p4
                by_cases c5 : s[k].toNat = 125
                · have hf : (s[k].toNat == 125) = true := by simpa using c5
                  have hn : b = false := HNO.out (by rw [HAT.out, hf]; simp)
                  subst hn
                  have d5 : ((s[k].toNat : Int) == 125) = true := by rw [beq_iff_eq]; omega
                  clear HNO HYES HAT hf HB0 c5
                  go_wp2_with fail
                  go_ret
                  exact ⟨rfl, rfl⟩
                · have p5 : (s[k].toNat == 125) = false := by simpa using c5
                  have d5 : ((s[k].toNat : Int) == 125) = false := by rw [beq_eq_false_iff_ne]; omega
                  clear c5
                  have P5 := Lib.hid p5
                  clear p5
                  by_cases c6 : s[k].toNat = 37
                  · have hf : (s[k].toNat == 37) = true := by simpa using c6
                    have hn : b = false := HNO.out (by rw [HAT.out, hf]; simp)
                    subst hn
                    have d6 : ((s[k].toNat : Int) == 37) = true := by rw [beq_iff_eq]; omega
                    clear HNO HYES HAT hf HB0 c6
                    go_wp2_with fail
                    go_ret
                    exact ⟨rfl, rfl⟩
                  · have p6 : (s[k].toNat == 37) = false := by simpa using c6
                    have d6 : ((s[k].toNat : Int) == 37) = false := by rw [beq_eq_false_iff_ne]; omega
                    clear c6
                    have P6 := Lib.hid p6
                    clear p6
                    by_cases c7 : s[k].toNat = 42
                    · have hf : (s[k].toNat == 42) = true := by simpa using c7
                      have hn : b = false := HNO.out (by rw [HAT.out, hf]; simp)
                      subst hn
                      have d7 : ((s[k].toNat : Int) == 42) = true := by rw [beq_iff_eq]; omega
                      clear HNO HYES HAT hf HB0 c7
                      go_wp2_with fail
                      go_ret
                      exact ⟨rfl, rfl⟩
                    · have p7 : (s[k].toNat == 42) = false := by simpa using c7
                      have d7 : ((s[k].toNat : Int) == 42) = false := by rw [beq_eq_false_iff_ne]; omega
                      clear c7
                      have P7 := Lib.hid p7
                      clear p7
                      by_cases c8 : s[k].toNat = 34
                      · have hf : (s[k].toNat == 34) = true := by simpa using c8
                        have hn : b = false := HNO.out (by rw [HAT.out, hf]; simp)
                        subst hn
                        have d8 : ((s[k].toNat : Int) == 34) = true := by rw [beq_iff_eq]; omega
                        clear HNO HYES HAT hf HB0 c8
                        go_wp2_with fail
                        go_ret
                        exact ⟨rfl, rfl⟩
                      · have p8 : (s[k].toNat == 34) = false := by simpa using c8
                        have d8 : ((s[k].toNat : Int) == 34) = false := by rw [beq_eq_false_iff_ne]; omega
                        clear c8
                        have P8 := Lib.hid p8
                        clear p8
                        by_cases c9 : s[k].toNat = 92
                        · have hf : (s[k].toNat == 92) = true := by simpa using c9
                          have hn : b = false := HNO.out (by rw [HAT.out, hf]; simp)
                          subst hn
                          have d9 : ((s[k].toNat : Int) == 92) = true := by rw [beq_iff_eq]; omega
                          clear HNO HYES HAT hf HB0 c9
                          go_wp2_with fail
                          go_ret
                          exact ⟨rfl, rfl⟩
                        · have p9 : (s[k].toNat == 92) = false := by simpa using c9
                          have d9 : ((s[k].toNat : Int) == 92) = false := by rw [beq_eq_false_iff_ne]; omega
                          clear c9
                          have P9 := Lib.hid p9
                          clear p9
                          by_cases c10 : s[k].toNat = 93
                          · have hf : (s[k].toNat == 93) = true := by simpa using c10
                            have hn : b = false := HNO.out (by rw [HAT.out, hf]; simp)
                            subst hn
                            have d10 : ((s[k].toNat : Int) == 93) = true := by rw [beq_iff_eq]; omega
                            clear HNO HYES HAT hf HB0 c10
                            go_wp2_with fail
                            go_ret
                            exact ⟨rfl, rfl⟩
                          · have p10 : (s[k].toNat == 93) = false := by simpa using c10
                            have d10 : ((s[k].toNat : Int) == 93) = false := by rw [beq_eq_false_iff_ne]; omega
                            clear c10
                            have P10 := Lib.hid p10
                            clear p10
                            have HY := Lib.hid (HYES.out (by rw [HAT.out, P0.out, P1.out, P2.out, P3.out, P4.out, P5.out, P6.out, P7.out, P8.out, P9.out, P10.out]; rfl))
                            clear HNO HYES HAT P0 P1 P2 P3 P4 P5 P6 P7 P8 P9 P10
                            go_wp2_with fail
                            go_round
                            case rel => exact ⟨k + 1, by omega, by go_num, HY⟩
                            case measure => simp [intOf]; omega
    · have hkn : k = s.size := by omega
      subst hkn
      have hb : b = !s.data.toList.isEmpty := by
        rw [← HB0.out]
        unfold atomL
        have h1 := hall
        rw [List.take_of_length_le (by rw [lenB]; exact Nat.le_refl _)] at h1
        rw [h1.out]
        simp
      have HBB := Lib.hid hb
      clear hb hall
      go_wp2_with fail
      go_ret
      exact ⟨ret_bool (by rw [HBB.out, ← ByteArray.toList_eq]), rfl⟩

end Go.Proofs.YtgkfknbhkonfdaaGreatDoor

namespace Go.Proofs.YtgkfknbhkonfdaaGreatDoor
open Go.Shelf Go.RowKit Go.Lib
attribute [local go_sem ↓] Go.wp_at_zero Go.wp_at_succ

/-- What a New does at a config that is right, or is not. -/
def NewOut (w : World) (c : CfgP) (ok : Bool) (e : Ending) (w' : World) : Prop := (ok = true → ∃ g q, e = .returned (.tuple #[.pointer (some ⟨g, 0, none⟩), .int .i64 0]) ∧ OwnStore w w' g q (newP c)) ∧ (ok = false → e = .returned (.tuple #[.pointer none, .int .i64 1]) ∧ Below w.heap.size w w')
def RNewOut (w : World) (c : CfgP) (ok : Bool) (e : Ending) (w' : World) : Prop := (ok = true → ∃ g q, e = .returned (.tuple #[.pointer (some ⟨g, 0, none⟩), .int .i64 0]) ∧ OwnRef w w' g q (newP c)) ∧ (ok = false → e = .returned (.tuple #[.pointer none, .int .i64 1]) ∧ Below w.heap.size w w')
def msF (m1 m2 m3 m4 m5 m6 m7 : Int) : Nat → Int
  | 0 => m1
  | 1 => m2
  | 2 => m3
  | 3 => m4
  | 4 => m5
  | 5 => m6
  | _ => m7
theorem atomT_any (u : Text) (hu : u.length ≤ 140737488351232) (W : World) : Calls Tryz.prog 91 #[.string ⟨u.toArray⟩] W fun e w' => e = .returned (.bool (atomL u)) ∧ W = w' := by
  have h := atom_any ⟨u.toArray⟩ W (by show u.toArray.size ≤ _; simpa using hu)
  simpa using h
theorem refAtomT_any (u : Text) (hu : u.length ≤ 140737488351232) (W : World) : Calls Tryz.prog 93 #[.string ⟨u.toArray⟩] W fun e w' => e = .returned (.bool (atomL u)) ∧ W = w' := by
  have h := refAtom_any ⟨u.toArray⟩ W (by show u.toArray.size ≤ _; simpa using hu)
  simpa using h

set_option maxRecDepth 100000 in
set_option maxHeartbeats 4000000 in
theorem newS_num (u p : Text) (hu : u.length ≤ 140737488351232) (hp : p.length ≤ 140737488351232) (au : atomL u = true) (ap : atomL p = true) (m1 m2 m3 m4 m5 m6 m7 : Int) (k0 : Nat) (h7 : k0 ≤ 7) (hgood : ∀ j, j < k0 → lim (msF m1 m2 m3 m4 m5 m6 m7 j)) (hbad : k0 < 7 → ¬ lim (msF m1 m2 m3 m4 m5 m6 m7 k0)) (w : World) :
    Calls Tryz.prog 35 #[.agg #[.string ⟨u.toArray⟩, .string ⟨p.toArray⟩, .int .i64 m1, .int .i64 m2, .int .i64 m3, .int .i64 m4, .int .i64 m5, .int .i64 m6, .int .i64 m7]] w (NewOut w ⟨u, p, m1, m2, m3, m4, m5, m6, m7⟩ (decide (k0 = 7))) := by
  have hU := fun W => atomT_any u hu W
  have hP := fun W => atomT_any p hp W
  rw [au] at hU
  rw [ap] at hP
  have hL : k0 = 7 → ∀ W, _ := fun h W => new_ok m6 W (by have h5 : lim m6 := hgood 5 (by omega); unfold lim at h5; omega)
  have hcells : ∀ k, k < 7 → ((w.alloc (.cells #[.string ⟨u.toArray⟩, .string ⟨p.toArray⟩, .int .i64 m1, .int .i64 m2, .int .i64 m3, .int .i64 m4, .int .i64 m5, .int .i64 m6, .int .i64 m7] 73)).alloc (.cells #[.int .i64 m1, .int .i64 m2, .int .i64 m3, .int .i64 m4, .int .i64 m5, .int .i64 m6, .int .i64 m7] 3)).cell? ⟨w.heap.size + 1, k, none⟩ = some (.int .i64 (msF m1 m2 m3 m4 m5 m6 m7 k)) := by
    intro k hk
    have hB := Blk.new (w.alloc (.cells #[.string ⟨u.toArray⟩, .string ⟨p.toArray⟩, .int .i64 m1, .int .i64 m2, .int .i64 m3, .int .i64 m4, .int .i64 m5, .int .i64 m6, .int .i64 m7] 73)) 3 #[.int .i64 m1, .int .i64 m2, .int .i64 m3, .int .i64 m4, .int .i64 m5, .int .i64 m6, .int .i64 m7]
    have hc := hB.cell k
    rw [show (w.alloc (.cells #[.string ⟨u.toArray⟩, .string ⟨p.toArray⟩, .int .i64 m1, .int .i64 m2, .int .i64 m3, .int .i64 m4, .int .i64 m5, .int .i64 m6, .int .i64 m7] 73)).heap.size = w.heap.size + 1 from by simp] at hc
    rw [hc]
    rcases k with _ | _ | _ | _ | _ | _ | _ | k
    · rfl
    · rfl
    · rfl
    · rfl
    · rfl
    · rfl
    · rfl
    · omega
  have HC := Lib.hid hcells
  have HG := Lib.hid hgood
  have HBAD := Lib.hid hbad
  have HA := Lib.hid ((Blk.new w 73 #[.string ⟨u.toArray⟩, .string ⟨p.toArray⟩, .int .i64 m1, .int .i64 m2, .int .i64 m3, .int .i64 m4, .int .i64 m5, .int .i64 m6, .int .i64 m7]).alloc (.cells #[.int .i64 m1, .int .i64 m2, .int .i64 m3, .int .i64 m4, .int .i64 m5, .int .i64 m6, .int .i64 m7] 3))
  have HB0 := Lib.hid (below_then (below_alloc1 w (.cells #[.string ⟨u.toArray⟩, .string ⟨p.toArray⟩, .int .i64 m1, .int .i64 m2, .int .i64 m3, .int .i64 m4, .int .i64 m5, .int .i64 m6, .int .i64 m7] 73)) (below_alloc1 _ (.cells #[.int .i64 m1, .int .i64 m2, .int .i64 m3, .int .i64 m4, .int .i64 m5, .int .i64 m6, .int .i64 m7] 3)))
  clear hcells hgood hbad au ap hu hp
  obtain ⟨mf, hmf⟩ : ∃ mf, msF m1 m2 m3 m4 m5 m6 m7 = mf := ⟨_, rfl⟩
  rw [hmf] at HC HG HBAD
  clear hmf
  go_enter Tryz.func35, Tryz.ntmps35
  go_wp2_with (first
    | (go_at_call 91; (with_reducible refine (hU _).mono ?_); rintro e w1 ⟨rfl, rfl⟩; clear hU)
    | (go_at_call 91; (with_reducible refine (hP _).mono ?_); rintro e w1 ⟨rfl, rfl⟩; clear hP)
    | fail)
  go_loop [35] (fun i => ∃ k : Nat, k ≤ k0 ∧ i = .int .i64 k) (fun i => k0 + 1 - (intOf i).toNat)
  case atStart => exact ⟨0, Nat.zero_le _, rfl⟩
  case round =>
    obtain ⟨k, hk, rfl⟩ := hrel
    by_cases hlt : k < k0
    · have hc := HC.out k (by omega)
      obtain ⟨hm1, hm2⟩ := HG.out k hlt
      obtain ⟨m, hm⟩ : ∃ m, mf k = m := ⟨_, rfl⟩
      rw [hm] at hc hm1 hm2
      have hk1 : (k : Int) < 7 := by omega
      have n1 : ¬ m < 1 := by omega
      have n2 : ¬ 2147483647 < m := by omega
      clear hm
      go_wp2_with fail
      refine ⟨?_, by simp [intOf]; omega⟩
      first | exact ⟨k + 1, by omega, by go_num⟩ | ((repeat apply Exists.intro); exact ⟨⟨k + 1, by omega, by go_num⟩, rfl⟩)
    · have hk0 : k = k0 := by omega
      subst hk0
      by_cases hk7 : k < 7
      · have hc := HC.out k hk7
        have hb := HBAD.out hk7
        obtain ⟨m, hm⟩ : ∃ m, mf k = m := ⟨_, rfl⟩
        rw [hm] at hc hb
        have hk1 : (k : Int) < 7 := by omega
        clear hm
        by_cases n1 : m < 1
        · go_wp2_with fail
          go_ret2
          exact ⟨fun h => absurd h (by rw [decide_eq_false (by omega)]; decide), fun _ => ⟨rfl, HB0.out⟩⟩
        · have n2 : 2147483647 < m := by
            unfold lim at hb
            omega
          go_wp2_with fail
          go_ret2
          exact ⟨fun h => absurd h (by rw [decide_eq_false (by omega)]; decide), fun _ => ⟨rfl, HB0.out⟩⟩
      · have hk7' : k = 7 := by omega
        subst hk7'
        have hl0 := hL rfl
        clear HC hL
        go_wp2_with (first
          | (go_at_call 92; refine (hl0 _).mono ?_; rintro e w3 ⟨rfl, hl, hb, hlt3⟩; have hA3 := HA.out.below hb (by simp; omega); have d0 : w3.cell? ⟨w.heap.size, 0, none⟩ = some (.string ⟨u.toArray⟩) := hA3.cell 0; have d1 : w3.cell? ⟨w.heap.size, 1, none⟩ = some (.string ⟨p.toArray⟩) := hA3.cell 1; have d2 : w3.cell? ⟨w.heap.size, 2, none⟩ = some (.int .i64 m1) := hA3.cell 2; have d3 : w3.cell? ⟨w.heap.size, 3, none⟩ = some (.int .i64 m2) := hA3.cell 3; have d4 : w3.cell? ⟨w.heap.size, 4, none⟩ = some (.int .i64 m3) := hA3.cell 4; have d5 : w3.cell? ⟨w.heap.size, 5, none⟩ = some (.int .i64 m4) := hA3.cell 5; have d6 : w3.cell? ⟨w.heap.size, 6, none⟩ = some (.int .i64 m5) := hA3.cell 6; have d7 : w3.cell? ⟨w.heap.size, 7, none⟩ = some (.int .i64 m6) := hA3.cell 7; have d8 : w3.cell? ⟨w.heap.size, 8, none⟩ = some (.int .i64 m7) := hA3.cell 8; have HB3 := Lib.hid (below_then HB0.out hb); have HL3 := Lib.hid hl; clear hb hl hl0 hA3)
          | (go_at_call 54; (refine (atomStore_any (w3.heap.size + 1) 9 0 1 _ ((blk_new2 w3 _ _ _).cell 9) ((blk_new2 w3 _ _ _).frozen 9)).mono ?_; rintro e w4 ⟨rfl, rfl⟩))
          | fail)
        go_ret2
        have hl3 := HL3.out
        simp only [World.size_alloc] at hl3
        have hlt4 : w.heap.size + 1 + 1 < w3.heap.size := by simpa using hlt3
        have hsz := HB3.out.size
        refine ⟨fun _ => ⟨w3.heap.size + 1, ⟨w.heap.size + 1 + 1, none, some w3.heap.size, none, .slice (some ⟨w3.heap.size, 0, none⟩) 1 1, .slice none 0 0, []⟩, rfl, ⟨storeAt_new (blk_new2 w3 _ _ _) (hl3.chg (((Chg.refl [] w3).alloc _).alloc _) (by simp) (by simp)) ((Blk.new w3 _ _).alloc _), (HB3.out.alloc hsz _).alloc (by simp; omega) _, fun k hk => ?_⟩⟩, fun h => absurd h (by decide)⟩
        simp only [Lies.own, Option.toList, List.mem_cons, List.mem_append, List.not_mem_nil, or_false, false_or] at hk
        rcases hk with rfl | rfl | rfl <;> omega

/-- A new account of the reference's. -/
theorem rstoreAt_new {w : World} {g gl b : Nat} {c : CfgP} (hB : Blk w g 156 (cellsR ⟨gl, none, some b, none, .slice (some ⟨b, 0, none⟩) 1 1, .slice none 0 0, []⟩ (newP c)).toArray) (hl : RLogAt w gl none ⟨c.maxLog, [], 0⟩)
    (hb : Blk w b 80 (encB ⟨1, inboxT, 0, 1, 1, 1⟩).toArray) : RStoreAt w g ⟨gl, none, some b, none, .slice (some ⟨b, 0, none⟩) 1 1, .slice none 0 0, []⟩ (newP c) := by
  refine ⟨hB, hl, ⟨rfl, .inr ⟨b, 0, 1, _, rfl, rfl, hb, Nat.le_refl _, by unfold maxLen; omega, by simp [encB], ?_⟩⟩, rfl, Sl.nil _ _ _, fun m hm => by simp at hm⟩
  simp [newP, flatG, encB]

theorem ref_new3 (w2 : World) (c : CfgP) (n : Nat) (hn : w2.heap.size = n) :
    RStoreAt (((w2.alloc (.cells (encB ⟨1, inboxT, 0, 1, 1, 1⟩).toArray 80)).alloc (.cells #[.int .i64 c.maxLog, .slice none 0 0, .int .i64 0] 174)).alloc (.cells (cellsR ⟨n + 1, none, some n, none, .slice (some ⟨n, 0, none⟩) 1 1, .slice none 0 0, []⟩ (newP c)).toArray 156)) (n + 1 + 1)
      ⟨n + 1, none, some n, none, .slice (some ⟨n, 0, none⟩) 1 1, .slice none 0 0, []⟩ (newP c) := by
  subst hn
  refine rstoreAt_new ?_ ⟨.slice none 0 0, ?_, Sl.nil _ _ _⟩ ?_
  · have h := Blk.new ((w2.alloc (.cells (encB ⟨1, inboxT, 0, 1, 1, 1⟩).toArray 80)).alloc (.cells #[.int .i64 c.maxLog, .slice none 0 0, .int .i64 0] 174)) 156 (cellsR ⟨w2.heap.size + 1, none, some w2.heap.size, none, .slice (some ⟨w2.heap.size, 0, none⟩) 1 1, .slice none 0 0, []⟩ (newP c)).toArray
    rw [World.size_alloc, World.size_alloc] at h
    exact h
  · have h := (Blk.new (w2.alloc (.cells (encB ⟨1, inboxT, 0, 1, 1, 1⟩).toArray 80)) 174 #[.int .i64 c.maxLog, .slice none 0 0, .int .i64 0]).alloc (.cells (cellsR ⟨w2.heap.size + 1, none, some w2.heap.size, none, .slice (some ⟨w2.heap.size, 0, none⟩) 1 1, .slice none 0 0, []⟩ (newP c)).toArray 156)
    rw [World.size_alloc] at h
    exact h
  · exact ((Blk.new w2 80 (encB ⟨1, inboxT, 0, 1, 1, 1⟩).toArray).alloc _).alloc _

set_option maxRecDepth 100000 in
set_option maxHeartbeats 4000000 in
theorem refNew_num (u p : Text) (hu : u.length ≤ 140737488351232) (hp : p.length ≤ 140737488351232) (m1 m2 m3 m4 m5 m6 m7 : Int) (k0 : Nat) (h7 : k0 ≤ 7) (hgood : ∀ j, j < k0 → lim (msF m1 m2 m3 m4 m5 m6 m7 j)) (hbad : k0 < 7 → ¬ lim (msF m1 m2 m3 m4 m5 m6 m7 k0)) (ok : Bool) (hok : ok = (decide (k0 = 7) && (atomL u && atomL p))) (w : World) :
    Calls Tryz.prog 37 #[.agg #[.string ⟨u.toArray⟩, .string ⟨p.toArray⟩, .int .i64 m1, .int .i64 m2, .int .i64 m3, .int .i64 m4, .int .i64 m5, .int .i64 m6, .int .i64 m7]] w (RNewOut w ⟨u, p, m1, m2, m3, m4, m5, m6, m7⟩ ok) := by
  have hU := fun W => refAtomT_any u hu W
  have hP := fun W => refAtomT_any p hp W
  obtain ⟨au, hau⟩ : ∃ au, atomL u = au := ⟨_, rfl⟩
  obtain ⟨ap, hap⟩ : ∃ ap, atomL p = ap := ⟨_, rfl⟩
  rw [hau] at hU hok
  rw [hap] at hP hok
  have hcells : ∀ k, k < 7 → ((w.alloc (.cells #[.string ⟨u.toArray⟩, .string ⟨p.toArray⟩, .int .i64 m1, .int .i64 m2, .int .i64 m3, .int .i64 m4, .int .i64 m5, .int .i64 m6, .int .i64 m7] 73)).alloc (.cells #[.int .i64 m1, .int .i64 m2, .int .i64 m3, .int .i64 m4, .int .i64 m5, .int .i64 m6, .int .i64 m7] 3)).cell? ⟨w.heap.size + 1, k, none⟩ = some (.int .i64 (msF m1 m2 m3 m4 m5 m6 m7 k)) := by
    intro k hk
    have hB := Blk.new (w.alloc (.cells #[.string ⟨u.toArray⟩, .string ⟨p.toArray⟩, .int .i64 m1, .int .i64 m2, .int .i64 m3, .int .i64 m4, .int .i64 m5, .int .i64 m6, .int .i64 m7] 73)) 3 #[.int .i64 m1, .int .i64 m2, .int .i64 m3, .int .i64 m4, .int .i64 m5, .int .i64 m6, .int .i64 m7]
    have hc := hB.cell k
    rw [show (w.alloc (.cells #[.string ⟨u.toArray⟩, .string ⟨p.toArray⟩, .int .i64 m1, .int .i64 m2, .int .i64 m3, .int .i64 m4, .int .i64 m5, .int .i64 m6, .int .i64 m7] 73)).heap.size = w.heap.size + 1 from by simp] at hc
    rw [hc]
    rcases k with _ | _ | _ | _ | _ | _ | _ | k
    · rfl
    · rfl
    · rfl
    · rfl
    · rfl
    · rfl
    · rfl
    · omega
  have HC := Lib.hid hcells
  have HG := Lib.hid hgood
  have HBAD := Lib.hid hbad
  have HOK := Lib.hid hok
  have HA := Lib.hid ((Blk.new w 73 #[.string ⟨u.toArray⟩, .string ⟨p.toArray⟩, .int .i64 m1, .int .i64 m2, .int .i64 m3, .int .i64 m4, .int .i64 m5, .int .i64 m6, .int .i64 m7]).alloc (.cells #[.int .i64 m1, .int .i64 m2, .int .i64 m3, .int .i64 m4, .int .i64 m5, .int .i64 m6, .int .i64 m7] 3))
  have HB0 := Lib.hid (below_then (below_alloc1 w (.cells #[.string ⟨u.toArray⟩, .string ⟨p.toArray⟩, .int .i64 m1, .int .i64 m2, .int .i64 m3, .int .i64 m4, .int .i64 m5, .int .i64 m6, .int .i64 m7] 73)) (below_alloc1 _ (.cells #[.int .i64 m1, .int .i64 m2, .int .i64 m3, .int .i64 m4, .int .i64 m5, .int .i64 m6, .int .i64 m7] 3)))
  clear hcells hgood hbad hu hp hok hau hap
  obtain ⟨mf, hmf⟩ : ∃ mf, msF m1 m2 m3 m4 m5 m6 m7 = mf := ⟨_, rfl⟩
  rw [hmf] at HC HG HBAD
  clear hmf
  go_enter Tryz.func37, Tryz.ntmps37
  go_wp2_with fail
  go_loop [5] (fun i => ∃ k : Nat, k ≤ k0 ∧ i = .int .i64 k) (fun i => k0 + 1 - (intOf i).toNat)
  case atStart => exact ⟨0, Nat.zero_le _, rfl⟩
  case round =>
    obtain ⟨k, hk, rfl⟩ := hrel
    by_cases hlt : k < k0
    · have hc := HC.out k (by omega)
      obtain ⟨hm1, hm2⟩ := HG.out k hlt
      obtain ⟨m, hm⟩ : ∃ m, mf k = m := ⟨_, rfl⟩
      rw [hm] at hc hm1 hm2
      have hk1 : (k : Int) < 7 := by omega
      have n1 : ¬ m < 1 := by omega
      have n2 : ¬ 2147483647 < m := by omega
      clear hm
      go_wp2_with fail
      refine ⟨?_, by simp [intOf]; omega⟩
      first | exact ⟨k + 1, by omega, by go_num⟩ | ((repeat apply Exists.intro); exact ⟨⟨k + 1, by omega, by go_num⟩, rfl⟩)
    · have hk0 : k = k0 := by omega
      subst hk0
      by_cases hk7 : k < 7
      · have hc := HC.out k hk7
        have hb := HBAD.out hk7
        obtain ⟨m, hm⟩ : ∃ m, mf k = m := ⟨_, rfl⟩
        rw [hm] at hc hb
        have hk1 : (k : Int) < 7 := by omega
        have HOF : Hid (ok = false) := Lib.hid (by rw [HOK.out, decide_eq_false (by omega)]; rfl)
        clear hm
        by_cases n1 : m < 1
        · go_wp2_with fail
          go_ret2
          exact ⟨fun h => absurd h (by rw [HOF.out]; decide), fun _ => ⟨rfl, HB0.out⟩⟩
        · have n2 : 2147483647 < m := by
            unfold lim at hb
            omega
          go_wp2_with fail
          go_ret2
          exact ⟨fun h => absurd h (by rw [HOF.out]; decide), fun _ => ⟨rfl, HB0.out⟩⟩
      · have hk7' : k = 7 := by omega
        subst hk7'
        have HOK2 : Hid (ok = (au && ap)) := Lib.hid (by rw [HOK.out]; simp)
        have hb0 := HA.out.cell 0
        have hb1 := HA.out.cell 1
        clear HC
        cases au with
        | false =>
          have HOF : Hid (ok = false) := Lib.hid (by rw [HOK2.out]; rfl)
          go_wp2_with (first
            | (go_at_call 93; (with_reducible refine (hU _).mono ?_); rintro e w1 ⟨rfl, rfl⟩; clear hU)
            | fail)
          go_ret2
          exact ⟨fun h => absurd h (by rw [HOF.out]; decide), fun _ => ⟨rfl, HB0.out⟩⟩
        | true =>
          cases ap with
          | false =>
            have HOF : Hid (ok = false) := Lib.hid (by rw [HOK2.out]; rfl)
            go_wp2_with (first
              | (go_at_call 93; (with_reducible refine (hU _).mono ?_); rintro e w1 ⟨rfl, rfl⟩; clear hU)
              | (go_at_call 93; (with_reducible refine (hP _).mono ?_); rintro e w1 ⟨rfl, rfl⟩; clear hP)
              | fail)
            go_ret2
            exact ⟨fun h => absurd h (by rw [HOF.out]; decide), fun _ => ⟨rfl, HB0.out⟩⟩
          | true =>
            have HOT : Hid (ok = true) := Lib.hid (by rw [HOK2.out]; rfl)
            go_wp2_with (first
              | (go_at_call 93; (with_reducible refine (hU _).mono ?_); rintro e w1 ⟨rfl, rfl⟩; clear hU)
              | (go_at_call 93; (with_reducible refine (hP _).mono ?_); rintro e w1 ⟨rfl, rfl⟩; clear hP)
              | fail)
            go_ret2
            have hsz := HB0.out.size
            simp only [World.size_alloc] at hsz
            refine ⟨fun _ => ⟨w.heap.size + 1 + 1 + 1 + 1, ⟨w.heap.size + 1 + 1 + 1, none, some (w.heap.size + 1 + 1), none, .slice (some ⟨w.heap.size + 1 + 1, 0, none⟩) 1 1, .slice none 0 0, []⟩, rfl, ⟨ref_new3 _ ⟨u, p, m1, m2, m3, m4, m5, m6, m7⟩ (w.heap.size + 1 + 1) (by simp), ((HB0.out.alloc (by simp; omega) _).alloc (by simp; omega) _).alloc (by simp; omega) _, fun k hk => ?_⟩⟩, fun h => absurd h (by rw [HOT.out]; decide)⟩
            simp only [Lies.own, Option.toList, List.mem_cons, List.mem_append, List.not_mem_nil, or_false, false_or] at hk
            rcases hk with rfl | rfl | rfl <;> omega

end Go.Proofs.YtgkfknbhkonfdaaGreatDoor
