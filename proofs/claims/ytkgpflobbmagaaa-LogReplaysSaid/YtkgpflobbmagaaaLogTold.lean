/-
  The walk of lists.told: the three lists of what befell ids.
-/
import Derived.Test.YtkgpflobbmagaaaLogLists
namespace Go.Proofs.Ytkgpflobbmagaaa
open Go.RowKit

/-- 'append' in a walk: the source has just been laid in a block of its own, number X. -/
theorem wpList_append_slX {P : Program} {W : World} {cs : Array Value} {e' : TypeId} {ops : Array Oper} {rest : List Oper} {o : Oper} {a : Act} {Q : Exit → Act → World → Prop}
    (hgd : o.guard = none) (s x : Operand) (t : TypeId)
    (ho : o.op = .call { callee := .builtin .append, args := #[s, x], argTypes := #[t, t] })
    {e : TypeId} {i : TypeInfo} {z : Value} {size bytes : Nat} (ht : P.underlying t = some (.slice e)) (hi : P.info? e = some i) (hz : i.zero = some z)
    (hsize : i.size = size) (hby : i.bytes = bytes) (hzs : z.cells.size = size) (hsz : 0 < size)
    {v : Value} {h : Option Nat} {n : Nat} {xs : List Value} (hsl : Sl W e size v h n xs) (hs : a.eval s = v) (X : Nat) (hX : W.heap.size = X)
    (m c : Nat) (hx : a.eval x = .slice (some ⟨X, 0, none⟩) m c) (hl : cs.toList.length = m * size) (h1 : ∀ u ∈ cs.toList, u.oneCell' = true)
    (h63 : n + m ≤ maxLen) (hbytes : (n + m) * bytes ≤ 140737488355328)
    (hk : ∀ v' h' w', Sl w' e size v' h' (n + m) (xs ++ cs.toList) → Chg h.toList W w' → (h' = h ∨ ∃ g, h' = some g ∧ W.heap.size ≤ g) → wpList P ops Q rest (a.put o.dst v') w') :
    wpList P ops Q (o :: rest) a (W.alloc (.cells cs e')) := by
  subst hX
  exact wpList_append_sl hgd s x t ho ht hi hz hsize hby hzs hsz hsl hs m c hx hl h1 h63 hbytes hk

def upd {α : Type} (f : Nat → α) (i : Nat) (v : α) : Nat → α := fun j => if j = i then v else f j

/-- What told's loop keeps: block C is the result, its three lists in memory of the call's own, apart from one another. -/
structure ToldMem (w wr : World) (C : Nat) (vs : Nat → Value) (hs : Nat → Option Nat) (ls : Nat → List Int) : Prop where
  bC : Blk wr C 46 #[vs 0, vs 1, vs 2, .int .i64 0, .bool false]
  sl : ∀ i, i < 3 → Sl wr 3 1 (vs i) (hs i) (ls i).length (intsV (ls i))
  below : Below w.heap.size w wr
  own : ∀ i k, hs i = some k → w.heap.size ≤ k
  apart : ∀ i j k, i < 3 → j < 3 → i ≠ j → hs i = some k → hs j ≠ some k
  hC : w.heap.size ≤ C

theorem ToldMem.ne {w wr : World} {C : Nat} {vs : Nat → Value} {hs : Nat → Option Nat} {ls : Nat → List Int} (q : ToldMem w wr C vs hs ls) (i : Nat) (hi : i < 3) : hs i ≠ some C :=
  fun hh => (q.sl i hi).ne_blk q.bC (by decide) C hh rfl

theorem ToldMem.app {w wr w2 : World} {C : Nat} {vs : Nat → Value} {hs : Nat → Option Nat} {ls : Nat → List Int} (q : ToldMem w wr C vs hs ls) (i : Nat) (hi : i < 3) {o : Obj} {x : Int} {v2 : Value} {h2 : Option Nat}
    (hs2 : Sl w2 3 1 v2 h2 ((ls i).length + 1) (intsV (ls i) ++ (#[.int .i64 x] : Array Value).toList)) (hc2 : Chg (hs i).toList (wr.alloc o) w2) (ho2 : h2 = hs i ∨ ∃ g, h2 = some g ∧ (wr.alloc o).heap.size ≤ g) :
    ToldMem w (w2.setCell ⟨C, i, none⟩ v2) C (upd vs i v2) (upd hs i h2) (upd ls i (ls i ++ [x])) := by
  have hsz : (wr.alloc o).heap.size = wr.heap.size + 1 := by simp
  have hCi : C ∉ (hs i).toList := fun hm => q.ne i hi (by simpa using hm)
  have hB2 : Blk w2 C _ _ := (q.bC.alloc o).chg hc2 hCi
  have hne2 : h2 ≠ some C := fun hh => hs2.ne_blk hB2 (by decide) C hh rfl
  have hbel : Below w.heap.size w w2 := by
    have h1 := (q.below.alloc q.below.size o)
    exact h1.trans (hc2.below (by rw [hsz]; have := q.below.size; omega) (fun k hk => q.own i k (by simpa using hk)))
  refine ⟨?_, fun j hj => ?_, hbel.setCell q.hC _, fun j k hk => ?_, fun j l k hj hl3 hne hk => ?_, q.hC⟩
  · have h1 := hB2.set i v2
    have h3 : (#[vs 0, vs 1, vs 2, .int .i64 0, .bool false] : Array Value).setIfInBounds i v2 = #[upd vs i v2 0, upd vs i v2 1, upd vs i v2 2, .int .i64 0, .bool false] := by
      match i, hi with
      | 0, _ => rfl
      | 1, _ => rfl
      | 2, _ => rfl
    rw [h3] at h1
    exact h1
  · by_cases e : j = i
    · subst e
      have h1 := hs2.far (p := ⟨C, j, none⟩) hne2 v2
      simp only [upd, if_true]
      rw [intsV_append, List.length_append]
      exact h1
    · simp only [upd, if_neg e]
      refine Sl.far ?_ (q.ne j hj) v2
      refine ((q.sl j hj).alloc o).chg hc2 fun k hk hm => ?_
      exact q.apart j i k hj hi e hk (by simpa using hm)
  · unfold upd at hk
    split at hk
    · rcases ho2 with h3 | ⟨g, h3, h4⟩
      · rw [h3] at hk
        exact q.own i k hk
      · rw [h3] at hk
        injection hk with hk
        have := q.below.size
        omega
    · exact q.own j k hk
  · unfold upd at hk ⊢
    by_cases e1 : j = i
    · subst e1
      rw [if_neg (fun e => hne e.symm)]
      rw [if_pos rfl] at hk
      intro hl
      rcases ho2 with h3 | ⟨g, h3, h4⟩
      · rw [h3] at hk
        exact q.apart j l k hj hl3 hne hk hl
      · rw [h3] at hk
        injection hk with hk
        have := (q.sl l hl3).lt k hl
        omega
    · rw [if_neg e1] at hk
      by_cases e2 : l = i
      · subst e2
        rw [if_pos rfl]
        intro hl
        rcases ho2 with h3 | ⟨g, h3, h4⟩
        · rw [h3] at hl
          exact q.apart j l k hj hl3 hne hk hl
        · rw [h3] at hl
          injection hl with hl
          have := (q.sl j hj).lt k hk
          omega
      · rw [if_neg e2]
        exact q.apart j l k hj hl3 hne hk

theorem seenV_at (s : Seen) (hnd : (s.map (·.1)).Nodup) (k : Nat) (hk : k < s.length) : seenV s s[k].1 = some (.agg #[.int .i64 s[k].2.1, .int .i64 s[k].2.2]) := by
  have : s.find? (fun p => p.1 == s[k].1) = some s[k] := by
    induction s generalizing k with
    | nil => simp at hk
    | cons p r ih =>
      cases k with
      | zero => simp
      | succ k =>
        have hk' : k < r.length := by simpa using hk
        simp only [List.map_cons, List.nodup_cons] at hnd
        have hne : (p.1 == r[k].1) = false := by
          rw [beq_eq_false_iff_ne]
          intro h
          exact hnd.1 (by rw [h]; exact List.mem_map_of_mem (List.getElem_mem hk'))
        simp only [List.getElem_cons_succ, List.find?_cons, hne]
        exact ih hnd.2 k hk'
  simp [seenV, this]

def toldF (s : Seen) (k : Nat) : Told := (s.take k).foldl toldOne ⟨[], [], []⟩
theorem toldF_succ (s : Seen) (k : Nat) (hk : k < s.length) : toldF s (k + 1) = toldOne (toldF s k) s[k] := by
  unfold toldF
  rw [List.take_succ_eq_append_getElem hk, List.foldl_append]
  rfl
theorem toldF_all (s : Seen) : toldF s s.length = toldS s := by simp [toldF, toldS]

/-- The three lists, by their places. -/
def lsOf (t : Told) : Nat → List Int := fun i => if i = 0 then t.made else if i = 1 then t.turned else if i = 2 then t.gone else []

/-- A value of type Changes whose lists are in memory of the call's own. -/
def ChO (w : World) (B : Nat) (c : Array Value) (t : Told) (state : Int) (more : Bool) : Prop :=
  ∃ (vs : Nat → Value) (hs : Nat → Option Nat), c = #[vs 0, vs 1, vs 2, .int .i64 state, .bool more] ∧ (∀ i, i < 3 → Sl w 3 1 (vs i) (hs i) (lsOf t i).length (intsV (lsOf t i))) ∧ ∀ i k, hs i = some k → B ≤ k

theorem toldOne_len (t : Told) (p : Int × Int × Int) (i : Nat) : (lsOf (toldOne t p) i).length ≤ (lsOf t i).length + 1 := by
  unfold toldOne
  split
  · omega
  · split
    · unfold lsOf
      by_cases h0 : i = 0
      · simp [h0]
      · simp [h0]
    · split
      · unfold lsOf
        by_cases h0 : i = 0
        · simp [h0]
        · by_cases h1 : i = 1
          · simp [h1]
          · by_cases h2 : i = 2 <;> simp [h0, h1, h2]
      · unfold lsOf
        by_cases h0 : i = 0
        · simp [h0]
        · by_cases h1 : i = 1 <;> simp [h0, h1]
theorem toldF_len (s : Seen) (k : Nat) (hk : k ≤ s.length) : ∀ i, (lsOf (toldF s k) i).length ≤ k := by
  induction k with
  | zero =>
    intro i
    simp [toldF, lsOf]
  | succ k ih =>
    intro i
    have h1 := ih (by omega) i
    have h2 := toldOne_len (toldF s k) s[k] i
    rw [toldF_succ s k (by omega)]
    omega

theorem lsOf_made (t : Told) (id z : Int) (hz : ¬ z = 3) : lsOf (toldOne t (id, 1, z)) = upd (lsOf t) 0 (lsOf t 0 ++ [id]) := by
  funext i
  simp only [toldOne, hz, lsOf, upd]
  by_cases h0 : i = 0
  · simp [h0]
  · by_cases h1 : i = 1
    · simp [h1]
    · by_cases h2 : i = 2 <;> simp [h0, h1, h2]
theorem lsOf_gone (t : Told) (id a : Int) (ha : ¬ a = 1) : lsOf (toldOne t (id, a, 3)) = upd (lsOf t) 2 (lsOf t 2 ++ [id]) := by
  funext i
  simp only [toldOne, ha, lsOf, upd]
  by_cases h0 : i = 0
  · simp [h0]
  · by_cases h1 : i = 1
    · simp [h1]
    · by_cases h2 : i = 2 <;> simp [h0, h1, h2]
theorem lsOf_turned (t : Told) (id a z : Int) (ha : ¬ a = 1) (hz : ¬ z = 3) : lsOf (toldOne t (id, a, z)) = upd (lsOf t) 1 (lsOf t 1 ++ [id]) := by
  funext i
  simp only [toldOne, ha, hz, lsOf, upd]
  by_cases h0 : i = 0
  · simp [h0]
  · by_cases h1 : i = 1
    · simp [h1]
    · by_cases h2 : i = 2 <;> simp [h0, h1, h2]

set_option maxRecDepth 100000 in
set_option maxHeartbeats 2000000 in
theorem told_any (w : World) (g : Nat) (h : Option Nat) (b : Nat) (s : Seen) (hs : SeenAt w g h b s) (hnd : (s.map (·.1)).Nodup) (hn : s.length ≤ 1099511627776) :
    Calls Try.prog 45 #[.pointer (some ⟨g, 0, none⟩)] w fun e w' => ∃ c, e = .returned (.agg c) ∧ ChO w' w.heap.size c (toldS s) 0 false ∧ Below w.heap.size w w' := by
  obtain ⟨i0, hi, hz0, hz1, hz2⟩ := info_parts Try.infoInt
  obtain ⟨v, m, hB, hsl, hM, hget⟩ := hs
  obtain ⟨A, cap, rfl, _, _⟩ := hsl.form
  have hgl := hB.lt
  have c0 : w.cell? ⟨g, 0, none⟩ = some (.slice A s.length cap) := hB.cell 0
  have hstart : ToldMem w (w.alloc (.cells #[.slice none 0 0, .slice none 0 0, .slice none 0 0, .int .i64 0, .bool false] 46)) w.heap.size (fun _ => .slice none 0 0) (fun _ => none) (lsOf (toldF s 0)) :=
    ⟨Blk.new w _ _, (fun i _ => by
      have : lsOf (toldF s 0) i = [] := by simp [lsOf, toldF]
      rw [this]
      exact Sl.nil _ _ _), (Below.refl _ _).alloc (Nat.le_refl _) _, (fun _ _ h => by cases h), (fun _ _ _ _ _ _ h => by cases h), Nat.le_refl _⟩
  have HS := Lib.hid hstart
  have HB := Lib.hid hB
  have HSL := Lib.hid hsl
  have HM := Lib.hid hM
  have HG := Lib.hid hget
  clear hstart hB hsl hM hget
  obtain ⟨L, hL⟩ : ∃ L, s.length = L := ⟨_, rfl⟩
  rw [hL] at c0 hn
  have HL := Lib.hid hL
  clear hL
  go_enter Try.func45, Try.ntmps45
  go_wp2_with fail
  generalize hC : w.heap.size = C at HS ⊢
  have HC := Lib.hid hC
  clear hC
  go_loopw [11] (fun i wr => ∃ (k : Nat) (vs : Nat → Value) (hs : Nat → Option Nat), k ≤ L ∧ i = .int .i64 k ∧ Hid (ToldMem w wr C vs hs (lsOf (toldF s k)))) (fun i _ => L - (intOf i).toNat)
  case atStart => exact ⟨0, _, _, Nat.zero_le _, rfl, HS⟩
  case round =>
    obtain ⟨k, vs, hs, hk, rfl, HU⟩ := hrel
    by_cases hlt : k < L
    · have hks : k < s.length := by rw [HL.out]; exact hlt
      have hbel := HU.out.below
      have hwsz := hbel.size
      obtain ⟨ba, off, cap2, hh, hva, _, _, hbl, hat⟩ := HSL.out.at_ (by omega)
      injection hva with hva1 _ hva3
      subst hva1
      subst hva3
      have d0 : wr.cell? ⟨ba, off + k, none⟩ = some (.int .i64 s[k].1) := by
        rw [hbel.cell (p := ⟨ba, off + k, none⟩) hbl, (hat k (by omega)).1]
        simp [intsV, hks]
      have d1 : wr.cell? ⟨g, 1, none⟩ = some (.map (some b)) := (hbel.cell (p := ⟨g, 1, none⟩) hgl).trans (HB.out.cell 1)
      clear hat
      have hlk := run_lookup_int1 (P := Try.prog) Try.underlying84 Try.underlying3 Try.zeroSeen (HM.out.keep (hbel.block b HM.out.lt)) s[k].1
      rw [HG.out, seenV_at s hnd k hks] at hlk
      simp only [Option.getD_some] at hlk
      have hsucc := toldF_succ s k hks
      have HSUCC := Lib.hid hsucc
      have hl0 := toldF_len s k (by omega)
      have HL0 := Lib.hid hl0
      clear hsucc hl0 hbel
      generalize s[k] = p at d0 hlk HSUCC
      obtain ⟨id, a, z⟩ := p
      simp only at d0 hlk HSUCC
      have e0 : wr.cell? ⟨C, 0, none⟩ = some (vs 0) := HU.out.bC.cell 0
      have e1 : wr.cell? ⟨C, 1, none⟩ = some (vs 1) := HU.out.bC.cell 1
      have e2 : wr.cell? ⟨C, 2, none⟩ = some (vs 2) := HU.out.bC.cell 2
      have hCl : C < wr.heap.size := HU.out.bC.lt
      by_cases ha : a = 1
      · subst ha
        by_cases hz : z = 3
        · subst hz
          have hlz : lsOf (toldF s (k + 1)) = lsOf (toldF s k) := by
            rw [HSUCC.out]
            simp [toldOne]
          have HQ : Hid (ToldMem w (wr.alloc (.cells #[.int .i64 1, .int .i64 3] 100)) C vs hs (lsOf (toldF s (k + 1)))) := by
            rw [hlz]
            exact ⟨HU.out.bC.alloc _, fun i hi => (HU.out.sl i hi).alloc _, HU.out.below.alloc HU.out.below.size _, HU.out.own, HU.out.apart, HU.out.hC⟩
          clear hlz
          go_wp2
          refine ⟨?_, by simp [intOf]; omega⟩
          first | exact ⟨k + 1, _, _, by omega, by go_num, HQ⟩ | ((repeat apply Exists.intro); exact ⟨⟨k + 1, _, _, by omega, by go_num, HQ⟩, rfl⟩)
        · have hz1' : (z == 3) = false := by simpa using hz
          go_wp2_with (at_builtin; refine wpList_append_slX rfl _ _ 44 rfl Try.underlying44 hi hz0 hz1 hz2 rfl (by decide) ((HU.out.sl 0 (by decide)).alloc _) rfl (wr.heap.size + 1) (by simp) 1 1 rfl rfl ?_ ?_ ?_ ?_)
          · rfl
          · have := HL0.out 0
            unfold maxLen
            omega
          · have := HL0.out 0
            omega
          · intro v2 h2 w2 hs2 hc2 ho2
            have ho2' : h2 = hs 0 ∨ ∃ g, h2 = some g ∧ (wr.alloc (.cells #[.int .i64 1, .int .i64 z] 100)).heap.size ≤ g := by simpa using ho2
            obtain ⟨A2, cap3, rfl, _, _⟩ := hs2.form
            have hCi : C ∉ (hs 0).toList := fun hm => HU.out.ne 0 (by decide) (by simpa using hm)
            have hB2 := (HU.out.bC.alloc (.cells #[.int .i64 1, .int .i64 z] 100)).chg hc2 hCi
            have f0 : w2.cell? ⟨C, 0, none⟩ = some (vs 0) := hB2.cell 0
            have f1 : w2.frozen? ⟨C, 0, none⟩ = false := hB2.frozen 0
            have q := HU.out.app 0 (by decide) hs2 hc2 ho2'
            have hlz : lsOf (toldF s (k + 1)) = upd (lsOf (toldF s k)) 0 (lsOf (toldF s k) 0 ++ [id]) := by
              rw [HSUCC.out]
              exact lsOf_made _ _ _ hz
            rw [← hlz] at q
            have HQ := Lib.hid q
            clear q hB2 hs2 hc2 ho2 ho2' hlz
            go_wp2
            refine ⟨?_, by simp [intOf]; omega⟩
            first | exact ⟨k + 1, _, _, by omega, by go_num, HQ⟩ | ((repeat apply Exists.intro); exact ⟨⟨k + 1, _, _, by omega, by go_num, HQ⟩, rfl⟩)
      · have ha1 : (a == 1) = false := by simpa using ha
        by_cases hz : z = 3
        · subst hz
          go_wp2_with (at_builtin; refine wpList_append_slX rfl _ _ 44 rfl Try.underlying44 hi hz0 hz1 hz2 rfl (by decide) ((HU.out.sl 2 (by decide)).alloc _) rfl (wr.heap.size + 1) (by simp) 1 1 rfl rfl ?_ ?_ ?_ ?_)
          · rfl
          · have := HL0.out 2
            unfold maxLen
            omega
          · have := HL0.out 2
            omega
          · intro v2 h2 w2 hs2 hc2 ho2
            have ho2' : h2 = hs 2 ∨ ∃ g, h2 = some g ∧ (wr.alloc (.cells #[.int .i64 a, .int .i64 3] 100)).heap.size ≤ g := by simpa using ho2
            obtain ⟨A2, cap3, rfl, _, _⟩ := hs2.form
            have hCi : C ∉ (hs 2).toList := fun hm => HU.out.ne 2 (by decide) (by simpa using hm)
            have hB2 := (HU.out.bC.alloc (.cells #[.int .i64 a, .int .i64 3] 100)).chg hc2 hCi
            have f0 : w2.cell? ⟨C, 2, none⟩ = some (vs 2) := hB2.cell 2
            have f1 : w2.frozen? ⟨C, 2, none⟩ = false := hB2.frozen 2
            have q := HU.out.app 2 (by decide) hs2 hc2 ho2'
            have hlz : lsOf (toldF s (k + 1)) = upd (lsOf (toldF s k)) 2 (lsOf (toldF s k) 2 ++ [id]) := by
              rw [HSUCC.out]
              exact lsOf_gone _ _ _ ha
            rw [← hlz] at q
            have HQ := Lib.hid q
            clear q hB2 hs2 hc2 ho2 ho2' hlz
            go_wp2
            refine ⟨?_, by simp [intOf]; omega⟩
            first | exact ⟨k + 1, _, _, by omega, by go_num, HQ⟩ | ((repeat apply Exists.intro); exact ⟨⟨k + 1, _, _, by omega, by go_num, HQ⟩, rfl⟩)
        · have hz1' : (z == 3) = false := by simpa using hz
          go_wp2_with (at_builtin; refine wpList_append_slX rfl _ _ 44 rfl Try.underlying44 hi hz0 hz1 hz2 rfl (by decide) ((HU.out.sl 1 (by decide)).alloc _) rfl (wr.heap.size + 1) (by simp) 1 1 rfl rfl ?_ ?_ ?_ ?_)
          · rfl
          · have := HL0.out 1
            unfold maxLen
            omega
          · have := HL0.out 1
            omega
          · intro v2 h2 w2 hs2 hc2 ho2
            have ho2' : h2 = hs 1 ∨ ∃ g, h2 = some g ∧ (wr.alloc (.cells #[.int .i64 a, .int .i64 z] 100)).heap.size ≤ g := by simpa using ho2
            obtain ⟨A2, cap3, rfl, _, _⟩ := hs2.form
            have hCi : C ∉ (hs 1).toList := fun hm => HU.out.ne 1 (by decide) (by simpa using hm)
            have hB2 := (HU.out.bC.alloc (.cells #[.int .i64 a, .int .i64 z] 100)).chg hc2 hCi
            have f0 : w2.cell? ⟨C, 1, none⟩ = some (vs 1) := hB2.cell 1
            have f1 : w2.frozen? ⟨C, 1, none⟩ = false := hB2.frozen 1
            have q := HU.out.app 1 (by decide) hs2 hc2 ho2'
            have hlz : lsOf (toldF s (k + 1)) = upd (lsOf (toldF s k)) 1 (lsOf (toldF s k) 1 ++ [id]) := by
              rw [HSUCC.out]
              exact lsOf_turned _ _ _ _ ha hz
            rw [← hlz] at q
            have HQ := Lib.hid q
            clear q hB2 hs2 hc2 ho2 ho2' hlz
            go_wp2
            refine ⟨?_, by simp [intOf]; omega⟩
            first | exact ⟨k + 1, _, _, by omega, by go_num, HQ⟩ | ((repeat apply Exists.intro); exact ⟨⟨k + 1, _, _, by omega, by go_num, HQ⟩, rfl⟩)
    · have hkL : k = L := by omega
      subst hkL
      obtain ⟨A0, p0, hv0, _, _⟩ := (HU.out.sl 0 (by decide)).form
      obtain ⟨A1, p1, hv1, _, _⟩ := (HU.out.sl 1 (by decide)).form
      obtain ⟨A2, p2, hv2, _, _⟩ := (HU.out.sl 2 (by decide)).form
      have e0 : wr.cell? ⟨C, 0, none⟩ = some (vs 0) := HU.out.bC.cell 0
      have e1 : wr.cell? ⟨C, 1, none⟩ = some (vs 1) := HU.out.bC.cell 1
      have e2 : wr.cell? ⟨C, 2, none⟩ = some (vs 2) := HU.out.bC.cell 2
      have e3 : wr.cell? ⟨C, 3, none⟩ = some (.int .i64 0) := HU.out.bC.cell 3
      have e4 : wr.cell? ⟨C, 4, none⟩ = some (.bool false) := HU.out.bC.cell 4
      have f0 : wr.frozen? ⟨C, 0, none⟩ = false := HU.out.bC.frozen 0
      have f1 : wr.frozen? ⟨C, 1, none⟩ = false := HU.out.bC.frozen 1
      have f2 : wr.frozen? ⟨C, 2, none⟩ = false := HU.out.bC.frozen 2
      have f3 : wr.frozen? ⟨C, 3, none⟩ = false := HU.out.bC.frozen 3
      have f4 : wr.frozen? ⟨C, 4, none⟩ = false := HU.out.bC.frozen 4
      have hfin : ∀ u0 u1 u2 u3 u4, ChO (((((wr.setCell ⟨C, 0, none⟩ u0).setCell ⟨C, 1, none⟩ u1).setCell ⟨C, 2, none⟩ u2).setCell ⟨C, 3, none⟩ u3).setCell ⟨C, 4, none⟩ u4) w.heap.size #[vs 0, vs 1, vs 2, .int .i64 0, .bool false] (toldS s) 0 false ∧
          Below w.heap.size w (((((wr.setCell ⟨C, 0, none⟩ u0).setCell ⟨C, 1, none⟩ u1).setCell ⟨C, 2, none⟩ u2).setCell ⟨C, 3, none⟩ u3).setCell ⟨C, 4, none⟩ u4) ∧ Blk (((((wr.setCell ⟨C, 0, none⟩ u0).setCell ⟨C, 1, none⟩ u1).setCell ⟨C, 2, none⟩ u2).setCell ⟨C, 3, none⟩ u3).setCell ⟨C, 4, none⟩ u4) C 46 #[u0, u1, u2, u3, u4] := fun u0 u1 u2 u3 u4 => by
        refine ⟨⟨vs, hs, rfl, fun i hi => ?_, HU.out.own⟩, ((((HU.out.below.setCell HU.out.hC _).setCell HU.out.hC _).setCell HU.out.hC _).setCell HU.out.hC _).setCell HU.out.hC _, ((((HU.out.bC.set 0 u0).set 1 u1).set 2 u2).set 3 u3).set 4 u4⟩
        have h0 := HU.out.sl i hi
        have hne := HU.out.ne i hi
        rw [← HL.out, toldF_all] at h0
        exact ((((h0.far hne _).far hne _).far hne _).far hne _).far hne _
      rw [hv0, hv1, hv2] at hfin
      rw [hv0] at e0
      rw [hv1] at e1
      rw [hv2] at e2
      have HFIN := Lib.hid hfin
      clear hfin hv0 hv1 hv2
      go_wp2
      have hF := HFIN.out (.slice A0 (lsOf (toldF s k) 0).length p0) (.slice A1 (lsOf (toldF s k) 1).length p1) (.slice A2 (lsOf (toldF s k) 2).length p2) (.int .i64 0) (.bool false)
      generalize (((((wr.setCell ⟨C, 0, none⟩ (.slice A0 (lsOf (toldF s k) 0).length p0)).setCell ⟨C, 1, none⟩ (.slice A1 (lsOf (toldF s k) 1).length p1)).setCell ⟨C, 2, none⟩ (.slice A2 (lsOf (toldF s k) 2).length p2)).setCell ⟨C, 3, none⟩ (.int .i64 0)).setCell ⟨C, 4, none⟩ (.bool false)) = WF at hF ⊢
      obtain ⟨q1, q2, q3⟩ := hF
      have r0 : WF.cell? ⟨C, 0, none⟩ = some (.slice A0 (lsOf (toldF s k) 0).length p0) := q3.cell 0
      have r1 : WF.cell? ⟨C, 1, none⟩ = some (.slice A1 (lsOf (toldF s k) 1).length p1) := q3.cell 1
      have r2 : WF.cell? ⟨C, 2, none⟩ = some (.slice A2 (lsOf (toldF s k) 2).length p2) := q3.cell 2
      have r3 : WF.cell? ⟨C, 3, none⟩ = some (.int .i64 0) := q3.cell 3
      have r4 : WF.cell? ⟨C, 4, none⟩ = some (.bool false) := q3.cell 4
      refine bodyPost_ret (v := .agg #[.slice A0 (lsOf (toldF s k) 0).length p0, .slice A1 (lsOf (toldF s k) 1).length p1, .slice A2 (lsOf (toldF s k) 2).length p2, .int .i64 0, .bool false]) ?_ rfl ⟨_, rfl, q1, q2⟩
      simp [results, Try.results45, go_sem, r0, r1, r2, r3, r4]

end Go.Proofs.Ytkgpflobbmagaaa
