/-
  The walks of lists.add and lists.told: what befell ids.
-/
import Derived.Test.YtkgpflobbmagaaaLogClone
import Derived.Test.YtkgpflobbmagaaaMapI
namespace Go.Proofs.Ytkgpflobbmagaaa
open Go.RowKit
attribute [local go_sem ↓] Go.wp_at_zero Go.wp_at_succ

theorem Try.infoInt : (Try.prog.info? 3).map (fun i => (i.zero, i.size, i.bytes)) = some (some (.int .i64 0), 1, 8) := by kernel_rfl
theorem Try.zeroSeen (w : World) : (zeroValue 100).run Try.prog w = .ok (.agg #[.int .i64 0, .int .i64 0]) w := by kernel_rfl

def intsV (l : List Int) : List Value := l.map (Value.int .i64)
theorem intsV_length (l : List Int) : (intsV l).length = l.length := by simp [intsV]
theorem intsV_append (a b : List Int) : intsV (a ++ b) = intsV a ++ intsV b := by simp [intsV]

/-- What the map holds of an id. -/
def seenV (s : Seen) (x : Int) : Option Value := (s.find? (fun p => p.1 == x)).map fun p => .agg #[.int .i64 p.2.1, .int .i64 p.2.2]

/-- A value of type lists in memory: its block, its ids' block, its map's block. -/
def SeenAt (w : World) (g : Nat) (h : Option Nat) (b : Nat) (s : Seen) : Prop :=
  ∃ v m, Blk w g 86 #[v, .map (some b)] ∧ Sl w 3 1 v h s.length (intsV (s.map (·.1))) ∧ MapI w b m ∧ ∀ x, getI m x = seenV s x

/-- Memory behind the first statement of add. -/
structure AddMem (w W : World) (g : Nat) (h : Option Nat) (b X Y n : Nat) (A : Option Addr) (cap : Nat) (ids : List Int) (m : List (Int × Value)) (e : E4) (a0 b0 : Int) : Prop where
  bG : Blk W g 86 #[.slice A n cap, .map (some b)]
  sI : Sl W 3 1 (.slice A n cap) h n (intsV ids)
  mM : MapI W b m
  bX : Blk W X 42 #[.int .i64 e.m, .int .i64 e.k, .int .i64 e.i, .int .i64 e.h]
  bY : Blk W Y 100 #[.int .i64 a0, .int .i64 b0]
  hX : w.heap.size ≤ X
  hY : w.heap.size ≤ Y

theorem AddMem.ne {w W : World} {g : Nat} {h : Option Nat} {b X Y n : Nat} {A : Option Addr} {cap : Nat} {ids : List Int} {m : List (Int × Value)} {e : E4} {a0 b0 : Int} (q : AddMem w W g h b X Y n A cap ids m e a0 b0) :
    g ∉ h.toList ∧ X ∉ h.toList ∧ Y ∉ h.toList ∧ b ∉ h.toList ∧ b ≠ g ∧ b ≠ X ∧ b ≠ Y ∧ g ≠ X ∧ g ≠ Y ∧ X ≠ Y := by
  refine ⟨fun hm => ?_, fun hm => ?_, fun hm => ?_, fun hm => ?_, q.mM.ne_blk q.bG, q.mM.ne_blk q.bX, q.mM.ne_blk q.bY, q.bG.ne q.bX (by decide), q.bG.ne q.bY (by decide), q.bX.ne q.bY (by decide)⟩
  · exact q.sI.ne_blk q.bG (by decide) g (by simpa using hm) rfl
  · exact q.sI.ne_blk q.bX (by decide) X (by simpa using hm) rfl
  · exact q.sI.ne_blk q.bY (by decide) Y (by simpa using hm) rfl
  · have hb : h = some b := by simpa using hm
    rcases q.sI.2 with ⟨h0, _⟩ | ⟨b', off, cap', cur, hh, _, hB, _⟩
    · rw [hb] at h0
      cases h0
    · rw [hb] at hh
      obtain rfl := Option.some.inj hh
      exact q.mM.ne_blk hB rfl

theorem AddMem.heap {w W W' : World} {g : Nat} {h : Option Nat} {b X Y n : Nat} {A : Option Addr} {cap : Nat} {ids : List Int} {m : List (Int × Value)} {e : E4} {a0 b0 : Int} (q : AddMem w W g h b X Y n A cap ids m e a0 b0) (he : W'.heap = W.heap) :
    AddMem w W' g h b X Y n A cap ids m e a0 b0 := ⟨q.bG.heap he, q.sI.heap he, q.mM.keep (by rw [he]), q.bX.heap he, q.bY.heap he, q.hX, q.hY⟩
/-- What a load reads, what a store asks. -/
structure AddCells (W : World) (g b X Y n : Nat) (A : Option Addr) (cap : Nat) (e : E4) (a0 b0 : Int) : Prop where
  g0 : W.cell? ⟨g, 0, none⟩ = some (.slice A n cap)
  g1 : W.cell? ⟨g, 1, none⟩ = some (.map (some b))
  gf : W.frozen? ⟨g, 0, none⟩ = false
  x2 : W.cell? ⟨X, 2, none⟩ = some (.int .i64 e.i)
  x3 : W.cell? ⟨X, 3, none⟩ = some (.int .i64 e.h)
  y0 : W.cell? ⟨Y, 0, none⟩ = some (.int .i64 a0)
  y1 : W.cell? ⟨Y, 1, none⟩ = some (.int .i64 b0)
  y0f : W.frozen? ⟨Y, 0, none⟩ = false
  y1f : W.frozen? ⟨Y, 1, none⟩ = false
  gl : g < W.heap.size
theorem AddMem.cells {w W : World} {g : Nat} {h : Option Nat} {b X Y n : Nat} {A : Option Addr} {cap : Nat} {ids : List Int} {m : List (Int × Value)} {e : E4} {a0 b0 : Int} (q : AddMem w W g h b X Y n A cap ids m e a0 b0) :
    AddCells W g b X Y n A cap e a0 b0 := ⟨q.bG.cell 0, q.bG.cell 1, q.bG.frozen 0, q.bX.cell 2, q.bX.cell 3, q.bY.cell 0, q.bY.cell 1, q.bY.frozen 0, q.bY.frozen 1, q.bG.lt⟩

/-- A store into the variable x. -/
theorem AddMem.setY {w W : World} {g : Nat} {h : Option Nat} {b X Y n : Nat} {A : Option Addr} {cap : Nat} {ids : List Int} {m : List (Int × Value)} {e : E4} {a0 b0 : Int} (q : AddMem w W g h b X Y n A cap ids m e a0 b0) (c : Int) :
    AddMem w (W.setCell ⟨Y, 0, none⟩ (.int .i64 c)) g h b X Y n A cap ids m e c b0 ∧ AddMem w (W.setCell ⟨Y, 1, none⟩ (.int .i64 c)) g h b X Y n A cap ids m e a0 c := by
  obtain ⟨n1, n2, n3, n4, n5, n6, n7, n8, n9, n10⟩ := q.ne
  have hh : h ≠ some Y := fun hh => n3 (by simp [hh])
  exact ⟨⟨q.bG.far n9 _, q.sI.far hh _, q.mM.keep (Below.heap_setCell W _ _ b n7), q.bX.far n10 _, q.bY.set 0 _, q.hX, q.hY⟩,
    ⟨q.bG.far n9 _, q.sI.far hh _, q.mM.keep (Below.heap_setCell W _ _ b n7), q.bX.far n10 _, q.bY.set 1 _, q.hX, q.hY⟩⟩

/-- The append of an id. -/
theorem AddMem.app {w W w2 : World} {g : Nat} {h h2 : Option Nat} {b X Y n k : Nat} {A A2 : Option Addr} {cap cap2 : Nat} {ids : List Int} {m : List (Int × Value)} {e : E4} {a0 b0 : Int} {o : Obj} (q : AddMem w W g h b X Y n A cap ids m e a0 b0)
    (hs2 : Sl w2 3 1 (.slice A2 k cap2) h2 (n + 1) (intsV ids ++ (#[.int .i64 e.i] : Array Value).toList)) (hc2 : Chg h.toList (W.alloc o).drew w2) :
    k = n + 1 ∧ AddMem w (w2.setCell ⟨g, 0, none⟩ (.slice A2 (n + 1) cap2)) g h2 b X Y (n + 1) A2 cap2 (ids ++ [e.i]) m e a0 b0 := by
  obtain ⟨n1, n2, n3, n4, n5, n6, n7, n8, n9, n10⟩ := q.ne
  have hk : k = n + 1 := by
    obtain ⟨A3, c3, hv, _⟩ := hs2.form
    injection hv
  subst hk
  have hB2 : Blk w2 g _ _ := ((q.bG.alloc o).heap rfl : Blk (W.alloc o).drew g _ _).chg hc2 n1
  have hX2 : Blk w2 X _ _ := ((q.bX.alloc o).heap rfl : Blk (W.alloc o).drew X _ _).chg hc2 n2
  have hY2 : Blk w2 Y _ _ := ((q.bY.alloc o).heap rfl : Blk (W.alloc o).drew Y _ _).chg hc2 n3
  have hM2 : MapI w2 b m := ((q.mM.alloc o).keep rfl : MapI (W.alloc o).drew b m).chg hc2 n4
  have hne : h2 ≠ some g := fun hh => hs2.ne_blk hB2 (by decide) g hh rfl
  refine ⟨rfl, hB2.set 0 _, ?_, hM2.keep (Below.heap_setCell w2 _ _ b n5), hX2.far n8.symm _, hY2.far n9.symm _, q.hX, q.hY⟩
  have h3 := hs2.far (p := ⟨g, 0, none⟩) hne (.slice A2 (n + 1) cap2)
  rw [intsV_append]
  exact h3

/-- The last statement of add, and what it leaves. -/
theorem AddMem.fin {w W : World} {g : Nat} {h : Option Nat} {b X Y n : Nat} {A : Option Addr} {cap : Nat} {ids : List Int} {m : List (Int × Value)} {e : E4} {a0 b0 : Int} (q : AddMem w W g h b X Y n A cap ids m e a0 b0) {s s' : Seen}
    (hids : ids = s'.map (·.1)) (hlen : n = s'.length) (hget : ∀ x, getI m x = seenV s x) (h1 : seenV s' e.i = some (.agg #[.int .i64 a0, .int .i64 b0])) (h2 : ∀ x, x ≠ e.i → seenV s' x = seenV s x) :
    ∃ W', (Instr.mapUpdate 84 (.map (some b)) (.int .i64 e.i) (.agg #[.int .i64 a0, .int .i64 b0])).run Try.prog W = .ok () W' ∧ SeenAt W' g h b s' ∧ Chg [b] W W' := by
  obtain ⟨n1, n2, n3, n4, n5, n6, n7, n8, n9, n10⟩ := q.ne
  obtain ⟨W', hr, hm, hc⟩ := run_mapUpdate_int (P := Try.prog) Try.underlying84 Try.underlying3 q.mM e.i (.agg #[.int .i64 a0, .int .i64 b0])
  subst hlen
  subst hids
  refine ⟨W', hr, ⟨_, _, q.bG.chg hc (by simpa using fun h => n5 h.symm), q.sI.chg hc (fun k hk => by simp; rintro rfl; exact n4 (by simp [hk])), hm, fun x => ?_⟩, hc⟩
  by_cases hx : x = e.i
  · subst hx
    rw [getI_put_same, h1]
  · rw [getI_put_other _ _ _ _ (fun h => hx h.symm), hget, h2 x hx]

set_option maxRecDepth 100000 in
set_option maxHeartbeats 2000000 in
theorem listsAdd_any (w : World) (g : Nat) (h : Option Nat) (b : Nat) (s : Seen) (e : E4) (hs : SeenAt w g h b s) (hn : s.length ≤ 2199023255552) :
    Calls Try.prog 44 #[.pointer (some ⟨g, 0, none⟩), .agg #[.int .i64 e.m, .int .i64 e.k, .int .i64 e.i, .int .i64 e.h]] w fun e' w' => e' = .returned (.tuple #[]) ∧
      ∃ h', SeenAt w' g h' b (addS s e) ∧ Chg (g :: b :: h.toList) w w' ∧ (h' = h ∨ ∃ k, h' = some k ∧ w.heap.size ≤ k) := by
  obtain ⟨i0, hi, hz0, hz1, hz2⟩ := info_parts Try.infoInt
  obtain ⟨v, m, hB, hsl, hM, hget⟩ := hs
  obtain ⟨A, cap, rfl, _, _⟩ := hsl.form
  have hgl := hB.lt
  have c0 : w.cell? ⟨g, 0, none⟩ = some (.slice A s.length cap) := hB.cell 0
  have c1 : w.cell? ⟨g, 1, none⟩ = some (.map (some b)) := hB.cell 1
  have hlk : ∀ W, MapI W b m → (Instr.lookup 84 (.map (some b)) (.int .i64 e.i) true).run Try.prog W = .ok (.tuple #[(seenV s e.i).getD (.agg #[.int .i64 0, .int .i64 0]), .bool (seenV s e.i).isSome]) W := fun W hW => by
    rw [← hget]
    exact run_lookup_int Try.underlying84 Try.underlying3 Try.zeroSeen hW e.i
  obtain ⟨a0, b0, had, hval⟩ : ∃ (a0 b0 : Int) (had : Bool), (Value.tuple #[(seenV s e.i).getD (.agg #[.int .i64 0, .int .i64 0]), .bool (seenV s e.i).isSome] = .tuple #[.agg #[.int .i64 a0, .int .i64 b0], .bool had]) ∧ (had = true ↔ ∃ p, s.find? (fun p => p.1 == e.i) = some p) ∧ (∀ p, s.find? (fun p => p.1 == e.i) = some p → a0 = p.2.1) := by
    cases hf : s.find? (fun p => p.1 == e.i) with
    | none => exact ⟨0, 0, false, by simp [seenV, hf], by simp, by simp⟩
    | some p => exact ⟨p.2.1, p.2.2, true, by simp [seenV, hf], by simp, by simp⟩
  rw [hval.1] at hlk
  have HH := Lib.hid hval.2
  clear hval
  have hM1 := hM.alloc (.cells #[.int .i64 e.m, .int .i64 e.k, .int .i64 e.i, .int .i64 e.h] 42)
  have hlk1 := hlk (w.alloc (.cells #[.int .i64 e.m, .int .i64 e.k, .int .i64 e.i, .int .i64 e.h] 42)).drew (hM1.keep rfl)
  have hlk2 := hlk ((w.alloc (.cells #[.int .i64 e.m, .int .i64 e.k, .int .i64 e.i, .int .i64 e.h] 42)).alloc (.cells #[.int .i64 0, .int .i64 0] 100)).drew ((hM1.alloc _).keep rfl)
  have HLK := Lib.hid hlk
  clear hlk
  go_enter Try.func44, Try.ntmps44
  go_wp2_with fail
  go_region
  all_goals
    have q : AddMem w ((w.alloc (.cells #[.int .i64 e.m, .int .i64 e.k, .int .i64 e.i, .int .i64 e.h] 42)).alloc (.cells #[.int .i64 a0, .int .i64 b0] 100)).drew g h b w.heap.size (w.heap.size + 1) s.length A cap (s.map (·.1)) m e a0 b0 :=
      ⟨((hB.alloc _).alloc _).heap rfl, ((hsl.alloc _).alloc _).heap rfl, (hM1.alloc _).keep rfl, ((Blk.new w _ _).alloc _).heap rfl, by
        have h1 := Blk.new (w.alloc (.cells #[.int .i64 e.m, .int .i64 e.k, .int .i64 e.i, .int .i64 e.h] 42)) 100 #[.int .i64 a0, .int .i64 b0]
        simp only [World.size_alloc] at h1
        exact h1.heap rfl, Nat.le_refl _, by omega⟩
    have hchg : Chg (g :: b :: h.toList) w ((w.alloc (.cells #[.int .i64 e.m, .int .i64 e.k, .int .i64 e.i, .int .i64 e.h] 42)).alloc (.cells #[.int .i64 a0, .int .i64 b0] 100)).drew := (((Chg.refl _ w).alloc _).alloc _).drew
    generalize ((w.alloc (.cells #[.int .i64 e.m, .int .i64 e.k, .int .i64 e.i, .int .i64 e.h] 42)).alloc (.cells #[.int .i64 a0, .int .i64 b0] 100)).drew = W1 at q hchg ⊢
    have hYX : w.heap.size ≤ w.heap.size + 1 := by omega
    generalize w.heap.size + 1 = Y at q hYX ⊢
    clear hlk1 hlk2 HLK hM hM1 hB hsl c0 c1 hgl
    have HQ := Lib.hid q
    have HC := Lib.hid hchg
    have HG := Lib.hid hget
    clear q hchg hget
    generalize hX : w.heap.size = X at HQ hYX ⊢
    have HX := Lib.hid hX
    clear hX
    cases had
    · have hp : s.find? (fun p => p.1 == e.i) = none := by
        cases hf : s.find? (fun p => p.1 == e.i) with
        | none => rfl
        | some p => exact absurd (HH.out.1.2 ⟨p, hf⟩) (by simp)
      have hnew := addS_new s e hp
      have hseen : seenV s e.i = none := by simp [seenV, hp]
      have HNEW := Lib.hid hnew
      have HP := Lib.hid hp
      clear hnew hp hseen
      obtain ⟨k0, k1, kf, k2, k3, k4, k5, k6, k7, k8⟩ := HQ.out.cells
      obtain ⟨n1, n2, n3, n4, n5, n6, n7, n8, n9, n10⟩ := HQ.out.ne
      go_wp2_with fail
      go_region_law (refine step_append_sl _ (by rfl) (.tmp 22) (.tmp 25) _ (by rfl) Try.underlying44 hi hz0 hz1 hz2 rfl (by omega) ((HQ.out.sI.alloc _).heap (by rfl)) (by simp [Act.eval]) W1.heap.size #[.int .i64 e.i] (e' := 3) (fr := (0, 0)) (heap_alloc_new W1 _) 1 1 (by simp [Act.eval]) (by rfl) (by simp [Value.oneCell']) (by unfold maxLen; omega) (by omega) ?_; intro v2 h2 w2 hs2 hc2 ho2; obtain ⟨A2, cap2, rfl, _, _⟩ := hs2.form; have hf2 : w2.frozen? ⟨g, 0, none⟩ = false := (hc2.frozen (p := ⟨g, 0, none⟩) (by simp; omega) n1).trans ((World.frozen?_alloc_past _ _ _ k8).trans kf); have hf3 : w2.cell? ⟨g, 0, none⟩ = some (.slice A s.length cap) := (hc2.cell (p := ⟨g, 0, none⟩) (by simp; omega) n1).trans ((World.cell?_alloc_past _ _ _ k8).trans k0))
      all_goals
        obtain ⟨_, q2⟩ := HQ.out.app hs2 hc2
        have hch2 : Chg (g :: b :: h.toList) w (w2.setCell ⟨g, 0, none⟩ (.slice A2 (s.length + 1) cap2)) := (((HC.out.alloc _).drew).trans hc2 (fun i hi => .inl (by simp at hi; simp [hi]))).set (p := ⟨g, 0, none⟩) (.inl (by simp)) _
        have hown2 : h2 = h ∨ ∃ k, h2 = some k ∧ w.heap.size ≤ k := by
          rcases ho2 with h3 | ⟨k, h3, h4⟩
          · exact .inl h3
          · have := HC.out.size
            simp at h4
            exact .inr ⟨k, h3, by omega⟩
        generalize w2.setCell ⟨g, 0, none⟩ (.slice A2 (s.length + 1) cap2) = W2 at q2 hch2 ⊢
        have HO := Lib.hid hown2
        have HC2 := Lib.hid hch2
        clear k0 k1 kf k2 k3 k4 k5 k6 k7 k8 n1 n2 n3 n4 n5 n6 n7 n8 n9 n10 hs2 hc2 ho2 hf2 hf3 HQ HC hown2 hch2
        obtain ⟨k0, k1, kf, k2, k3, k4, k5, k6, k7, k8⟩ := q2.cells
        have q4 := ((q2.setY e.h).1.setY e.h).2
        obtain ⟨W', hr, hfin, hcf⟩ := (q4.heap (W' := ((W2.setCell ⟨Y, 0, none⟩ (.int .i64 e.h)).setCell ⟨Y, 1, none⟩ (.int .i64 e.h)).drew) rfl).fin (s := s) (s' := addS s e) (by rw [HNEW.out]; simp) (by rw [HNEW.out]; simp) HG.out (by rw [HNEW.out]; simp [seenV, HP.out]) (fun x hx => by
          rw [HNEW.out]
          have : (e.i == x) = false := by rw [beq_eq_false_iff_ne]; exact fun h => hx h.symm
          simp [seenV, List.find?_append, this])
        have hcells := q4.cells
        have HFIN := Lib.hid hfin
        have HCF := Lib.hid hcf
        clear hfin hcf q2 q4
        go_wp2_with fail
        generalize hW3 : (W2.setCell ⟨Y, 0, none⟩ (.int .i64 e.h)).setCell ⟨Y, 1, none⟩ (.int .i64 e.h) = W3 at hr hcells HCF ⊢
        have HW3 := Lib.hid hW3
        clear hW3 k0 k1 kf k2 k3 k4 k5 k6 k7 k8
        obtain ⟨k0, k1, kf, k2, k3, k4, k5, k6, k7, k8⟩ := hcells
        go_region
        all_goals
          go_end0
          refine ⟨rfl, h2, HFIN.out, ?_, HO.out⟩
          have h1 := (HC2.out.set (p := ⟨Y, 0, none⟩) (.inr (show w.heap.size ≤ Y by rw [HX.out]; exact hYX)) (.int .i64 e.h)).set (p := ⟨Y, 1, none⟩) (.inr (show w.heap.size ≤ Y by rw [HX.out]; exact hYX)) (.int .i64 e.h)
          rw [HW3.out] at h1
          exact h1.drew.trans HCF.out (fun i hi => .inl (by simp at hi; simp [hi]))
    · obtain ⟨p, hp⟩ := HH.out.1.1 rfl
      have ha0 := HH.out.2 p hp
      subst ha0
      obtain ⟨s1, s2, s3⟩ := addS_found s e p hp
      have hlen : s.length = (addS s e).length := by
        have := congrArg List.length s1
        simpa using this.symm
      obtain ⟨k0, k1, kf, k2, k3, k4, k5, k6, k7, k8⟩ := HQ.out.cells
      have q2 := (HQ.out.setY e.h).2
      obtain ⟨W', hr, hfin, hcf⟩ := (q2.heap (W' := (W1.setCell ⟨Y, 1, none⟩ (.int .i64 e.h)).drew) rfl).fin (s := s) (s' := addS s e) s1.symm hlen HG.out (by simp [seenV, s2]) (fun x hx => by simp [seenV, s3 x hx])
      have hcells := q2.cells
      have HFIN := Lib.hid hfin
      have HCF := Lib.hid hcf
      clear hfin hcf q2 s1 s2 s3 hp hlen
      go_wp2_with fail
      generalize hW2 : W1.setCell ⟨Y, 1, none⟩ (.int .i64 e.h) = W2 at hr hcells HCF ⊢
      have HW2 := Lib.hid hW2
      clear hW2 k0 k1 kf k2 k3 k4 k5 k6 k7 k8
      obtain ⟨k0, k1, kf, k2, k3, k4, k5, k6, k7, k8⟩ := hcells
      go_region
      all_goals
        go_end0
        refine ⟨rfl, h, HFIN.out, ?_, .inl rfl⟩
        have h1 := HC.out.set (p := ⟨Y, 1, none⟩) (.inr (show w.heap.size ≤ Y by rw [HX.out]; exact hYX)) (.int .i64 e.h)
        rw [HW2.out] at h1
        exact h1.drew.trans HCF.out (fun i hi => .inl (by simp at hi; simp [hi]))

end Go.Proofs.Ytkgpflobbmagaaa
