/-
  Words of the reference's Merge: what its two loops keep.
  The walk of seq.Read: the set that a text tells, or why there is none; nothing that was there turns.
  The walk of seq.In.
-/
import Derived.Test.YtnfabgbidkddhaaGreatDoorGCB
import Derived.Test.YtnfabgbidkddhaaGreatDoorGRA
import Derived.Deep.QuietTactic
import Derived.Deep.CutBlock
import Derived.Deep.DeepCutAuto
namespace Go.Proofs.YtnfabgbidkddhaaGreatDoor
open Go.Shelf Go.RowKit Go.Lib Go.Sort
attribute [local go_sem ↓] Go.wp_at_zero Go.wp_at_succ

theorem Sl.belowR {w w' : World} {e : TypeId} {size n : Nat} {v : Value} {h : Option Nat} {xs : List Value} (hs : Sl w e size v h n xs) (hb : Below w.heap.size w w') : Sl w' e size v h n xs :=
  hs.chg (Chg.of_below hb []) (by simp)

theorem flatR_snoc (l : List Rg) (a b : Int) : flatR l ++ [.int .i64 a, .int .i64 b] = flatR (l ++ [(a, b)]) := by
  rw [flatR_append]
  rfl

/-- What the inner loop keeps: x in its box, the list that comes next, what was there. -/
structure ISt (w0 wr : World) (bx : Nat) (st : Ins) (o : Value) (h : Option Nat) : Prop where
  box : Blk wr bx 75 #[.int .i64 st.x.1, .int .i64 st.x.2]
  sl : Sl wr 75 2 o h st.next.length (flatR st.next)
  bel : Below bx w0 wr
  own : ∀ b, h = some b → bx < b

theorem ISt.push {w0 wr w3 w' : World} {bx : Nat} {st : Ins} {o o' : Value} {h h' : Option Nat} (s : ISt w0 wr bx st o h) (hb : Below wr.heap.size wr w3) (a b : Int) (hr : Sl w' 75 2 o' h' (st.next.length + 1) (flatR st.next ++ [.int .i64 a, .int .i64 b]))
    (hc : Chg h.toList w3 w') (ho : h' = h ∨ ∃ g, h' = some g ∧ w3.heap.size ≤ g) (p : Bool) : ISt w0 w' bx ⟨st.x, st.next ++ [(a, b)], p⟩ o' h' := by
  have hlt := s.box.lt
  have hbx : bx ∉ h.toList := by
    intro hm
    have := s.own bx (by simpa using hm)
    omega
  refine ⟨(s.box.below hb hlt).chg hc hbx, ?_, ?_, ?_⟩
  · have e := flatR_snoc st.next a b
    rw [e] at hr
    simpa using hr
  · refine s.bel.trans ?_
    refine (hb.mono (by omega)).trans ?_
    exact hc.below (by have := hb.size; omega) (fun k hk => by have := s.own k (by simpa using hk); omega)
  · intro b' hb'
    rcases ho with h1 | ⟨g, h1, h2⟩
    · exact s.own b' (by rw [← h1]; exact hb')
    · rw [hb'] at h1
      injection h1 with h1
      have := hb.size
      omega

theorem ISt.set {w0 wr : World} {bx : Nat} {st : Ins} {o : Value} {h : Option Nat} (s : ISt w0 wr bx st o h) (a b : Int) (c : Obj) (hw : bx ≤ wr.heap.size) :
    ISt w0 (((wr.setCell ⟨bx, 0, none⟩ (.int .i64 a)).setCell ⟨bx, 1, none⟩ (.int .i64 b)).alloc c) bx { st with x := (a, b) } o h := by
  have hne : h ≠ some bx := fun e => by have := s.own bx e; omega
  refine ⟨?_, ?_, ?_, s.own⟩
  · exact ((s.box.set 0 (.int .i64 a)).set 1 (.int .i64 b)).alloc c
  · exact ((s.sl.far hne _).far hne _).alloc c
  · exact ((s.bel.setCell (Nat.le_refl _) _).setCell (Nat.le_refl _) _).alloc (by simpa [World.setCell] using hw) c

/-- What the outer loop keeps. -/
structure OSt (w wr : World) (l : List Rg) (k : Nat) (o : Value) (h : Option Nat) (out : List Rg) : Prop where
  sl : Sl wr 75 2 o h out.length (flatR out)
  bel : RowKit.Below w.heap.size w wr
  fold : (l.take k).foldl rStep [] = out
  len : out.length ≤ k
  rng : ∀ x ∈ out, 1 ≤ x.1 ∧ x.1 ≤ 9223372036854775807 ∧ x.2 ≤ 9223372036854775807
theorem OSt.start {w : World} {l : List Rg} : OSt w w l 0 (.slice none 0 0) none [] := ⟨Sl.nil _ _ _, RowKit.Below.refl _ _, rfl, Nat.le_refl _, by simp⟩
theorem OSt.skip {w wr : World} {l : List Rg} {k : Nat} {o : Value} {h : Option Nat} {out : List Rg} (s : OSt w wr l k o h out) {hk : k < l.length} {a0 a b : Int} (hy : l[k] = (a0, b)) (ha : max a0 1 = a) (hb : b < a) (c : Obj) : OSt w (wr.alloc c) l (k + 1) o h out := by
  refine ⟨s.sl.alloc c, s.bel.alloc s.bel.size c, ?_, by have := s.len; omega, s.rng⟩
  rw [List.take_succ_eq_append_getElem hk, List.foldl_append, s.fold, hy]
  show rStep out (a0, b) = out
  unfold rStep
  simp only [ha]
  rw [if_pos hb]

theorem ins_step (st : Ins) (y : Rg) (l : List Rg) (k : Nat) (hk : k < l.length) (hy : l[k] = y) (z : Ins) (h : (l.take k).foldl iStep z = st) : (l.take (k + 1)).foldl iStep z = iStep st y := by
  rw [List.take_succ_eq_append_getElem hk, List.foldl_append, h, hy]
  rfl

/-- What the inner loop keeps, in plain lists. -/
structure JSt (out : List Rg) (j : Nat) (x : Rg) (st : Ins) : Prop where
  fold : (out.take j).foldl iStep ⟨x, [], false⟩ = st
  len : st.next.length + (if st.put then 0 else 1) ≤ j + 1
  x1 : 1 ≤ st.x.1 ∧ st.x.1 ≤ 9223372036854775807
  x2 : st.x.2 ≤ 9223372036854775807
  rng : ∀ y ∈ st.next, 1 ≤ y.1 ∧ y.1 ≤ 9223372036854775807 ∧ y.2 ≤ 9223372036854775807
theorem JSt.start {out : List Rg} {a b : Int} (h1 : 1 ≤ a) (h2 : a ≤ 9223372036854775807) (h3 : b ≤ 9223372036854775807) : JSt out 0 (a, b) ⟨(a, b), [], false⟩ :=
  ⟨rfl, by simp, ⟨h1, h2⟩, h3, by simp⟩
theorem JSt.step {out : List Rg} {j : Nat} {x y : Rg} {st st' : Ins} (s : JSt out j x st) {hj : j < out.length} (hy : out[j] = y) (he : iStep st y = st') (h1 : 1 ≤ y.1 ∧ y.1 ≤ 9223372036854775807 ∧ y.2 ≤ 9223372036854775807) :
    JSt out (j + 1) x st' := by
  have hf := ins_step st y out j hj hy _ s.fold
  have s1 := s.len
  obtain ⟨x1, x1'⟩ := s.x1
  have x2 := s.x2
  have hr := s.rng
  refine ⟨hf.trans he, ?_, ?_, ?_, ?_⟩
  all_goals
    rw [← he]
    unfold iStep
    split
    · first
        | exact s.x1
        | exact x2
        | (intro z hz; rcases List.mem_append.1 hz with hz | hz; exact hr z hz; rw [List.mem_singleton.1 hz]; exact h1)
        | (revert s1; cases st.put <;> simp <;> omega)
    · split
      · first
          | exact s.x1
          | exact x2
          | (revert s1; cases st.put <;> simp <;> omega)
          | (intro z hz; rcases List.mem_append.1 hz with hz | hz; (cases hp : st.put <;> rw [hp] at hz; (rcases List.mem_append.1 hz with hz | hz; exact hr z hz; rw [List.mem_singleton.1 hz]; exact ⟨x1, x1', x2⟩); exact hr z hz); rw [List.mem_singleton.1 hz]; exact h1)
      · first
          | exact hr
          | exact Nat.le_succ_of_le s1
          | (show 1 ≤ min st.x.1 y.1 ∧ min st.x.1 y.1 ≤ _; omega)
          | (show max st.x.2 y.2 ≤ _; omega)

theorem iEnd_len {out : List Rg} {j : Nat} {x : Rg} {st : Ins} (s : JSt out j x st) : (iEnd st).length ≤ j + 1 := by
  have := s.len
  unfold iEnd
  revert this
  cases st.put <;> simp
theorem iEnd_rng {out : List Rg} {j : Nat} {x : Rg} {st : Ins} (s : JSt out j x st) : ∀ y ∈ iEnd st, 1 ≤ y.1 ∧ y.1 ≤ 9223372036854775807 ∧ y.2 ≤ 9223372036854775807 := by
  unfold iEnd
  intro y hy
  split at hy
  · exact s.rng y hy
  · rcases List.mem_append.1 hy with h | h
    · exact s.rng y h
    · rw [List.mem_singleton.1 h]
      exact ⟨s.x1.1, s.x1.2, s.x2⟩
theorem OSt.next {w wo wr : World} {l : List Rg} {k j : Nat} {o o' : Value} {h h' : Option Nat} {out nxt : List Rg} (s : OSt w wo l k o h out) {hk : k < l.length} {x y : Rg} {st : Ins} (hy : l[k] = y) (hrs : rStep out y = iEnd st) (hj : JSt out j x st) (hjl : j ≤ out.length)
    (hn : iEnd st = nxt) (hsl : Sl wr 75 2 o' h' nxt.length (flatR nxt)) (hb : RowKit.Below wo.heap.size wo wr) : OSt w wr l (k + 1) o' h' nxt := by
  subst hn
  refine ⟨hsl, s.bel.trans (hb.mono s.bel.size), ?_, ?_, iEnd_rng hj⟩
  · rw [List.take_succ_eq_append_getElem hk, List.foldl_append, s.fold, hy]
    exact hrs
  · have := iEnd_len hj
    have := s.len
    omega

end Go.Proofs.YtnfabgbidkddhaaGreatDoor

namespace Go.Proofs.YtnfabgbidkddhaaGreatDoor
open Go.Shelf Go.RowKit Go.Lib Go.Sort
attribute [local go_sem ↓] Go.wp_at_zero Go.wp_at_succ

theorem Sl.below {w w' : World} {e : TypeId} {size n : Nat} {v : Value} {h : Option Nat} {xs : List Value} (hs : Sl w e size v h n xs) (hb : Below w.heap.size w w') : Sl w' e size v h n xs :=
  hs.chg (Chg.of_below hb []) (by simp)

theorem numberL_le (l : List UInt8) : (numberL l).1 ≤ 4294967295 := by
  unfold numberL
  split
  · show (0 : Int) ≤ _
    omega
  · split
    · split
      · show (0 : Int) ≤ _
        omega
      · show _ ≤ _
        omega
    · show (0 : Int) ≤ _
      omega
theorem boundL_rng (l : List UInt8) (star : Int) (h : star ≤ 9223372036854775807) : 0 ≤ (boundL l star).1 ∧ (boundL l star).1 ≤ 9223372036854775807 := by
  unfold boundL
  split
  · show 0 ≤ (if star < 0 then 0 else star) ∧ (if star < 0 then 0 else star) ≤ 9223372036854775807
    split <;> omega
  · have h1 := numberL_le l
    have h2 := numberL_ge l
    show 0 ≤ (numberL l).1 ∧ (numberL l).1 ≤ 9223372036854775807
    omega
theorem partL_rng (l : List UInt8) (star : Int) (h : star ≤ 9223372036854775807) :
    0 ≤ (partL l star).1.1 ∧ (partL l star).1.1 ≤ (partL l star).1.2 ∧ (partL l star).1.2 ≤ 9223372036854775807 := by
  have h1 := boundL_rng (cutL l).1 star h
  have h2 := boundL_rng (cutL l).2 star h
  unfold partL
  dsimp only
  generalize (boundL (cutL l).1 star).1 = x at *
  generalize (boundL (cutL l).2 star).1 = y at *
  split <;> split <;> omega

/-- What is handed back: ranges in memory of the call's own, and a number of an error. -/
def RetR (B : Nat) (w : World) (r : List Rg × Int) (e : Ending) (w' : World) : Prop :=
  ∃ v' h', e = .returned (.tuple #[v', .int .i64 r.2]) ∧ Sl w' 75 2 v' h' r.1.length (flatR r.1) ∧ Below B w w'

/-- What the loop keeps. -/
structure RSt (w wr : World) (P : List ByteArray) (star : Int) (r : Option (List Rg)) (k : Nat) (o : Value) (acc : List Rg) (h : Option Nat) : Prop where
  blk : Blk wr w.heap.size 9 (P.map Value.string).toArray
  sl : Sl wr 75 2 o h acc.length (flatR acc)
  bel : Below w.heap.size w wr
  len : acc.length ≤ k
  rng : ∀ x ∈ acc, 1 ≤ x.1 ∧ x.1 ≤ 9223372036854775807
  own : ∀ b, h = some b → w.heap.size < b
  go : r = readGo star ((P.drop k).map fun s => s.data.toList) acc

theorem RSt.push {w wr w3 w' : World} {P : List ByteArray} {star : Int} {r : Option (List Rg)} {k : Nat} {o v' : Value} {acc : List Rg} {h h' : Option Nat} (s : RSt w wr P star r k o acc h) (hb3 : RowKit.Below wr.heap.size wr w3) {a0 a b : Int}
    (hgo : r = readGo star ((P.drop (k + 1)).map fun s => s.data.toList) (if (clipR (a0, b)).1 ≤ (clipR (a0, b)).2 then acc ++ [clipR (a0, b)] else acc)) (hcl : clipR (a0, b) = (a, b)) (hle : a ≤ b) (ha : 1 ≤ a ∧ a ≤ 9223372036854775807)
    {c : Obj} (hs2 : Sl w' 75 2 v' h' (acc.length + 1) (flatR acc ++ [.int .i64 a, .int .i64 b])) (hc2 : Chg h.toList (w3.alloc c) w') (ho2 : h' = h ∨ ∃ g, h' = some g ∧ (w3.alloc c).heap.size ≤ g) :
    RSt w w' P star r (k + 1) v' (acc ++ [(a, b)]) h' := by
  have hlt := s.blk.lt
  have hsz := s.bel.size
  have hsz3 := hb3.size
  have hlo : ∀ i ∈ h.toList, w.heap.size < i := fun i hi => s.own i (by simpa using hi)
  have hch : RowKit.Below (w.heap.size + 1) (w3.alloc c) w' := hc2.below (by simp; omega) fun i hi => hlo i hi
  refine ⟨?_, ?_, ?_, ?_, ?_, ?_, ?_⟩
  · exact (((s.blk.below hb3 hlt).alloc c).below hch (by omega))
  · have e := flatR_snoc acc a b
    rw [e] at hs2
    simpa using hs2
  · exact ((s.bel.trans (hb3.mono hsz)).alloc (by omega) c).trans (hch.mono (by omega))
  · have := s.len
    simp
    omega
  · intro x hx
    rcases List.mem_append.1 hx with hx | hx
    · exact s.rng x hx
    · rw [List.mem_singleton.1 hx]
      exact ha
  · intro i hi
    rcases ho2 with h1 | ⟨g, h1, h2⟩
    · exact s.own i (by rw [← h1]; exact hi)
    · rw [hi] at h1
      injection h1 with h1
      simp at h2
      omega
  · rw [hgo, hcl, if_pos hle]
theorem RSt.skip {w wr w3 : World} {P : List ByteArray} {star : Int} {r : Option (List Rg)} {k : Nat} {o : Value} {acc : List Rg} {h : Option Nat} (s : RSt w wr P star r k o acc h) (hb3 : RowKit.Below wr.heap.size wr w3) {a0 a b : Int}
    (hgo : r = readGo star ((P.drop (k + 1)).map fun s => s.data.toList) (if (clipR (a0, b)).1 ≤ (clipR (a0, b)).2 then acc ++ [clipR (a0, b)] else acc)) (hcl : clipR (a0, b) = (a, b)) (hle : ¬ a ≤ b) (c : Obj) :
    RSt w (w3.alloc c) P star r (k + 1) o acc h := by
  have hlt := s.blk.lt
  have hsz := s.bel.size
  have hsz3 := hb3.size
  refine ⟨(s.blk.below hb3 hlt).alloc c, (s.sl.below hb3).alloc c, (s.bel.trans (hb3.mono hsz)).alloc (by omega) c, ?_, s.rng, s.own, ?_⟩
  · have := s.len
    omega
  · rw [hgo, hcl, if_neg hle]

theorem Mx.below' {w w' : World} (h : Mx w) (hb : Below w.heap.size w w') : Mx w' := h.below hb

set_option maxRecDepth 100000 in
set_option maxHeartbeats 4000000 in
theorem read_any (s : ByteArray) (star : Int) (w : World) (hs : s.size ≤ 140737488351232) (hst : star ≤ 9223372036854775807) (hm : Mx w) :
    Calls Tryz.prog 63 #[.string s, .int .i64 star] w (RetR w.heap.size w (readL s.data.toList star)) := by
  have hsz := lenB s
  by_cases hlong : 1000 < s.size
  · have hr : readL s.data.toList star = ([], 2) := by
      unfold readL
      rw [if_pos (by omega)]
    rw [hr]
    clear hr hst hm
    go_enter Tryz.func63, Tryz.ntmps63
    go_wp2
    go_ret2
    exact ⟨_, none, rfl, Sl.nil _ _ _, Below.refl _ _⟩
  · obtain ⟨m0, hm0⟩ := hm
    have hlt0 := World.block_lt_of_cell? _ _ hm0
    have HMX : Hid (Mx w) := Lib.hid ⟨m0, hm0⟩
    have hsp := Tryz.strings_Split s ⟨#[44]⟩ m0 w (by omega) hm0 (by decide)
    obtain ⟨i0, hi, hz0, hz1, hz2⟩ := info_parts Tryz.infoRange
    have hpc := splitB_pieces 44 s
    have hln := splitB_all ⟨#[44]⟩ (by decide) 0 _ s rfl
    have hrl : readL s.data.toList star = match readGo star ((splitB ⟨#[44]⟩ 0 (countB s ⟨#[44]⟩) s).map fun s => s.data.toList) [] with
        | none => ([], 3)
        | some a => (mergeR a, 0) := by
      unfold readL
      rw [if_neg (by omega)]
      have e : (splitB ⟨#[44]⟩ 0 (countB s ⟨#[44]⟩) s).map (fun s => s.data.toList) = piecesC 44 s.data.toList := hpc
      rw [e]
      rfl
    have hsizes : ∀ p ∈ splitB ⟨#[44]⟩ 0 (countB s ⟨#[44]⟩) s, p.size ≤ 1000 := by
      intro p hp
      have h1 : p.data.toList ∈ piecesC 44 s.data.toList := by
        rw [← hpc]
        exact List.mem_map_of_mem hp
      have h2 := piecesC_size 44 _ _ h1
      have := lenB p
      omega
    have hN : countB s ⟨#[44]⟩ + 1 ≤ 1001 := by
      have h1 := piecesC_count 44 s.data.toList
      rw [← hpc, List.length_map, hln] at h1
      omega
    clear hpc
    generalize splitB ⟨#[44]⟩ 0 (countB s ⟨#[44]⟩) s = P at hsp hln hrl hsizes
    generalize hNe : countB s ⟨#[44]⟩ + 1 = N at hsp hln hN
    clear hNe
    rw [hrl]
    obtain ⟨ro, hro⟩ : ∃ ro, readGo star (P.map fun s => s.data.toList) [] = ro := ⟨_, rfl⟩
    rw [hro]
    have HLN := Lib.hid hln
    have HRO := Lib.hid hro
    have HSZ := Lib.hid hsizes
    have HLT := Lib.hid hlt0
    clear hrl hln hro hsizes hm0 hsz hlt0
    go_enter Tryz.func63, Tryz.ntmps63
    go_wp2_with (first
      | (go_at_call 97; refine hsp.mono ?_; rintro e w1 ⟨rfl, rfl⟩; clear hsp)
      | fail)
    have hB0 := Blk.new w 9 (P.map Value.string).toArray
    have HB0 := Lib.hid hB0
    have HE0 := Lib.hid ((Below.refl w.heap.size w).alloc (Nat.le_refl _) (.cells (P.map Value.string).toArray 9))
    clear hB0
    go_loopw [6, 17] (fun o i wr => ∃ (k : Nat) (acc : List Rg) (h : Option Nat), k ≤ N ∧ i = .int .i64 k ∧ Hid (RSt w wr P star ro k o acc h)) (fun _ i _ => N - (intOf i).toNat)
    case atStart => exact ⟨0, [], none, Nat.zero_le _, rfl, Lib.hid ⟨HB0.out, Sl.nil _ _ _, HE0.out, Nat.le_refl _, by simp, by simp, HRO.out.symm⟩⟩
    case round =>
      obtain ⟨k, acc, h, hk, rfl, HS⟩ := hrel
      clear HB0 HE0
      by_cases hlt : k < N
      · have hkP : k < P.length := by rw [HLN.out]; exact hlt
        have c0 : wr.cell? ⟨w.heap.size, k, none⟩ = some (.string P[k]) := by
          rw [HS.out.blk.cell k]
          simp [hkP]
        have hpart := part_any P[k] star wr (by have := HSZ.out P[k] (List.getElem_mem hkP); omega) (HMX.out.below HS.out.bel)
        have hgo : ro = readGo star (P[k].data.toList :: (P.drop (k + 1)).map fun s => s.data.toList) acc := by
          have := HS.out.go
          rw [List.drop_eq_getElem_cons hkP, List.map_cons] at this
          exact this
        unfold readGo at hgo
        have hrg := partL_rng P[k].data.toList star hst
        generalize hq : partL P[k].data.toList star = q at hpart hgo hrg
        clear hq
        obtain ⟨⟨a, b⟩, ok⟩ := q
        simp only at hpart hgo hrg
        obtain ⟨ha0, hab, hb63⟩ := hrg
        cases ok with
        | false =>
          simp only [Bool.false_eq_true, if_false] at hgo
          subst hgo
          have HBE := Lib.hid HS.out.bel
          have hsw := HS.out.bel.size
          clear HRO HS
          go_wp2_with (first
            | (go_at_call 98; refine hpart.mono ?_; rintro e w3 ⟨rfl, hb3⟩; have HB3 := Lib.hid (HBE.out.trans (hb3.mono HBE.out.size)); clear hpart hb3)
            | fail)
          go_ret2
          exact ⟨_, none, rfl, Sl.nil _ _ _, HB3.out.alloc HB3.out.size _⟩
        | true =>
          simp only [if_true] at hgo
          have HGO := Lib.hid hgo
          clear hgo
          have hmx := fun ats ty W => run_max_int (P := Tryz.prog) ats ty a 1 W
          obtain ⟨a', ha'⟩ : ∃ a' : Int, (if a < 1 then 1 else a) = a' := ⟨_, rfl⟩
          rw [ha'] at hmx
          have hcl : clipR (a, b) = (a', b) := by unfold clipR; rw [ha']
          have ha1 : 1 ≤ a' ∧ a' ≤ 9223372036854775807 := by rw [← ha']; split <;> omega
          have HCL := Lib.hid hcl
          have HA1 := Lib.hid ha1
          clear ha' hcl ha1 hab ha0
          by_cases hle : a' ≤ b
          · have hown : ∀ W3, Below wr.heap.size wr W3 → Sl (W3.alloc (.cells #[.int .i64 a', .int .i64 b] 75)) 75 2 u6 h acc.length (flatR acc) := fun W3 hb => (HS.out.sl.below hb).alloc _
            have hlen := HS.out.len
            go_wp2_with (first
              | (go_at_call 98; refine hpart.mono ?_; rintro e w3 ⟨rfl, hb3⟩; have HB3 := Lib.hid hb3; have HO3 := Lib.hid (hown w3 hb3); clear hpart hb3 hown)
              | (at_builtin; refine wpList_append_slX rfl _ _ 55 rfl Tryz.underlying55 hi hz0 hz1 hz2 rfl (by decide) HO3.out rfl (w3.heap.size + 1) (by simp) 1 1 rfl rfl ?_ ?_ ?_ ?_)
              | fail)
            · simp [Value.oneCell']
            · unfold maxLen
              omega
            · omega
            · intro v' h' w' r1 r2 r3
              have hst := HS.out.push HB3.out HGO.out HCL.out hle HA1.out (by simpa using r1) r2 (by simpa using r3)
              have HST := Lib.hid hst
              clear hst r1 r2 r3 HO3
              go_wp2
              refine ⟨?_, by simp [intOf]; omega⟩
              first | exact ⟨k + 1, _, _, by omega, by go_num, HST⟩ | ((repeat apply Exists.intro); exact ⟨⟨k + 1, _, _, by omega, by go_num, HST⟩, rfl⟩)
          · go_wp2_with (first
              | (go_at_call 98; refine hpart.mono ?_; rintro e w3 ⟨rfl, hb3⟩; have HB3 := Lib.hid hb3; clear hpart hb3)
              | fail)
            have hst := HS.out.skip HB3.out HGO.out HCL.out (by omega) (.cells #[.int .i64 a', .int .i64 b] 75)
            have HST := Lib.hid hst
            clear hst
            refine ⟨?_, by simp [intOf]; omega⟩
            first | exact ⟨k + 1, _, _, by omega, by go_num, HST⟩ | ((repeat apply Exists.intro); exact ⟨⟨k + 1, _, _, by omega, by go_num, HST⟩, rfl⟩)
      · have hkN : k = N := by omega
        subst hkN
        have hgo := HS.out.go
        rw [List.drop_of_length_le (by rw [HLN.out]; exact Nat.le_refl _)] at hgo
        simp only [List.map_nil, readGo] at hgo
        subst hgo
        have hmg := fun W (hb : Below wr.heap.size wr W) => merge_any W u6 h acc.length acc (HS.out.sl.below hb) (by have := HS.out.len; omega) HS.out.rng
        go_wp2_with (first
          | (go_at_call 65; refine (hmg _ (Below.refl _ _)).mono ?_; rintro e w3 ⟨v3, h3, rfl, hs3, hb3⟩; have HS3 := Lib.hid hs3; have HB3 := Lib.hid hb3; clear hmg hs3 hb3)
          | fail)
        go_ret2
        exact ⟨_, _, rfl, HS3.out, HS.out.bel.trans (HB3.out.mono HS.out.bel.size)⟩

end Go.Proofs.YtnfabgbidkddhaaGreatDoor

namespace Go.Proofs.YtnfabgbidkddhaaGreatDoor
open Go.Shelf Go.RowKit Go.Lib
attribute [local go_sem ↓] Go.wp_at_zero Go.wp_at_succ

set_option maxRecDepth 100000 in
theorem idx0_any (A : Option Addr) (c : Nat) (fv : Value) (w : World) :
    Calls Tryz.prog 96 #[.slice A 0 c, fv] w fun e w' => e = .returned (.int .i64 (-1)) ∧ w = w' := by
  go_enter Tryz.func96, Tryz.ntmps96
  go_wp2
  refine wp_loop_rounds 1 ?_
  rw [rounds_succ]
  go_wp2
  go_ret
  exact ⟨rfl, rfl⟩
set_option maxRecDepth 100000 in
theorem contains0_any (A : Option Addr) (c : Nat) (fv : Value) (w : World) :
    Calls Tryz.prog 61 #[.slice A 0 c, fv] w fun e w' => e = .returned (.bool false) ∧ w = w' := by
  have hi := idx0_any A c fv w
  go_enter Tryz.func61, Tryz.ntmps61
  go_wp2_with (first
    | (go_at_call 96; refine hi.mono ?_; rintro e w2 ⟨rfl, rfl⟩)
    | fail)
  go_ret
  exact ⟨rfl, rfl⟩

set_option maxRecDepth 100000 in
set_option maxHeartbeats 1000000 in
theorem in_any (w : World) (v : Value) (n : Nat) (l : List Rg) (x : Int) (hn : l.length = n) (hr : RdS w [] 2 v n (flatR l)) :
    Calls Tryz.prog 64 #[v, .int .i64 x] w fun e w' => e = .returned (.bool (inL l x)) ∧ Below w.heap.size w w' := by
  rcases Nat.eq_zero_or_pos n with h0 | h0
  · subst h0
    obtain rfl : l = [] := List.eq_nil_of_length_eq_zero hn
    obtain ⟨A, cap, rfl, _, _⟩ := hr.form
    have hc := fun fv W => contains0_any A cap fv W
    clear hr hn
    go_enter Tryz.func64, Tryz.ntmps64
    go_wp2_with (first
      | (go_at_call 61; refine (hc _ _).mono ?_; rintro e w2 ⟨rfl, rfl⟩)
      | fail)
    go_ret
    exact ⟨rfl, (Below.refl _ _).alloc (Nat.le_refl _) _⟩
  · obtain ⟨b, off, cap, rfl, hnc, hcm, hlt, _, hat⟩ := hr.at_ h0
    have hw1 : (w.alloc (.cells #[.int .i64 x] 3)).cell? ⟨w.heap.size, 0, none⟩ = some (.int .i64 x) := (World.cell?_alloc_at _ _ _ _ rfl).trans rfl
    have hp := inPred_any x w.heap.size _ hw1
    have eg : ∀ args W, (callFunc 99 args).run Tryz.prog W = .ok (.enter 99 args) W := enters_of Tryz.func99 (by kernel_rfl) rfl
    have hc := AnyQ.slices_ContainsFunc Tryz.containsR 2 Tryz.isAgg75 Tryz.sizeOf75 encR (fun _ => rfl) (inR x) 99 #[.pointer (some ⟨w.heap.size, 0, none⟩)] eg b off n cap l (w.alloc (.cells #[.int .i64 x] 3)) hp (by omega) (by unfold maxLen at hcm; omega) (by simp; omega)
      (fun j hj i u hu => by
        have h2 : i < 2 := by
          have := (List.getElem?_eq_some_iff.1 hu).1
          simpa [encR] using this
        rw [World.cell?_alloc_lt w _ _ hlt, show off + j * 2 + i = off + (j * 2 + i) by omega, hat _ (by omega)]
        have h3 := flatR_at l j hj
        rw [getElem!_pos l j hj] at hu
        match i, h2 with
        | 0, _ => rw [Nat.add_zero, h3.1, ← hu]; rfl
        | 1, _ => rw [h3.2, ← hu]; rfl)
    have hall : (l.take n).any (inR x) = inL l x := by
      rw [List.take_of_length_le (by omega)]
      rfl
    rw [hall] at hc
    have HC : Hid (∀ (e : Ending) w', Below (w.alloc (.cells #[.int .i64 x] 3)).heap.size (w.alloc (.cells #[.int .i64 x] 3)) w' → Below w.heap.size w w') := Lib.hid fun _ w' hb => ((Below.refl w.heap.size w).alloc (Nat.le_refl _) (.cells #[.int .i64 x] 3)).trans (hb.mono (by simp))
    generalize inL l x = r at hc
    clear hat hr hp eg hall hw1
    go_enter Tryz.func64, Tryz.ntmps64
    go_wp2_with (first
      | (go_at_call 61; refine hc.mono ?_; rintro e w2 ⟨rfl, hb⟩; have HB := Lib.hid (HC.out (.returned (.bool r)) w2 hb); clear hb hc HC)
      | fail)
    go_ret
    exact ⟨rfl, HB.out⟩

end Go.Proofs.YtnfabgbidkddhaaGreatDoor
