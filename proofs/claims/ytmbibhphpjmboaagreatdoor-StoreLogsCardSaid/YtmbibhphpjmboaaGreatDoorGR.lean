/-
  The library's DeleteFunc over a slice of members of the call's own, with whatever closure.
  The library's Grow of a nil slice of numbers; Concat of two slices of numbers.
  The store's Place where it refuses ahead of any work.
  The store's Place where the clock, or a mailbox's numbers, are at their end.
-/
import Derived.Test.YtmbibhphpjmboaaGreatDoorGQ
import Derived.Test.YtmbibhphpjmboaaGreatDoorGD
import Derived.Lib.SliceRun
import Derived.Lib.AppendZerosOnto
namespace Go.Proofs.YtmbibhphpjmboaaGreatDoor
open Go.Shelf Go.RowKit Go.Lib
attribute [local go_sem ↓] Go.wp_at_zero Go.wp_at_succ

/-- The built-in clear of a slice of members. -/
theorem run_clear_mem {P : Program} (w : World) (t e ty : TypeId) (ht : P.underlying t = some (.slice e)) (hv : ∀ w, (zeroValue e).run P w = .ok (.agg #[.int .i64 0, .int .i64 0]) w) (b o n c : Nat) (hn : 0 < n)
    (hc : ∀ j, j < n * 2 → (w.cell? ⟨b, o + j, none⟩).isSome = true) (hf : ∀ j, j < n * 2 → w.frozen? ⟨b, o + j, none⟩ = false) :
    (Builtin.clear_ #[t] ty #[.slice (some ⟨b, o, none⟩) n c]).run P w = .ok (.tuple #[]) (w.setCells b o (List.replicate (n * 2) (.int .i64 0))) := by
  have hzc : (Builtin.zeroCells (Value.cells (.agg #[.int .i64 0, .int .i64 0])) n).toList = List.replicate (n * 2) (Value.int .i64 0) := by
    apply List.ext_getElem
    · simp [Builtin.zeroCells, Value.cells]
    · intro i h1 h2
      have h3 : i % 2 = 0 ∨ i % 2 = 1 := by omega
      rcases h3 with h3 | h3 <;> simp [Builtin.zeroCells, Value.cells, h3]
  have hst := run_storeCells_cells (P := P) b o (List.replicate (n * 2) (Value.int .i64 0)) 0 w (by simpa using hc) (by simpa using hf) (by intro u hu; rw [(List.mem_replicate.1 hu).2]; rfl)
  simp only [Nat.add_zero] at hst
  have hn0 : n ≠ 0 := by omega
  simp [Builtin.clear_, run_underlying ht, hv, hzc, hst, hn0]

structure DelRelP (w wr : World) (v : Value) (hh : Option Nat) (l : List (Int × Int)) (p : Int × Int → Bool) (j i : Nat) (cur : List (Int × Int)) : Prop where
  sl : Sl wr 71 2 v hh l.length (flatG encMem cur)
  len : cur.length = l.length
  i_ : i = ((l.take j).filter (fun x => !p x)).length
  lt : i < j
  done : cur.take i = (l.take j).filter (fun x => !p x)
  rest : cur.drop j = l.drop j
  chg : Chg hh.toList w wr
theorem DelRelP.skip {w wr wr' : World} {v : Value} {hh : Option Nat} {l : List (Int × Int)} {p : Int × Int → Bool} {j i : Nat} {cur : List (Int × Int)} (h : DelRelP w wr v hh l p j i cur) (hj : j < l.length) (hp : p l[j] = true) (hb : Below wr.heap.size wr wr') : DelRelP w wr' v hh l p (j + 1) i cur := by
  have h1 : (l.take (j + 1)).filter (fun x => !p x) = (l.take j).filter (fun x => !p x) := by
    rw [List.take_succ_eq_append_getElem hj, List.filter_append]
    simp [hp]
  refine ⟨h.sl.keep (fun b hb2 => hb.block b (h.sl.lt b hb2)), h.len, by rw [h1]; exact h.i_, by have := h.lt; omega, by rw [h1]; exact h.done, ?_, h.chg.trans (Chg.of_below hb hh.toList) (fun k hk => .inl hk)⟩
  have h2 := congrArg (List.drop 1) h.rest
  simpa [List.drop_drop] using h2
theorem flatP_set2 (l : List (Int × Int)) (i : Nat) (hi : i < l.length) (y : Int × Int) : ((flatG encMem l).set (i * 2) (.int .i64 y.1)).set (i * 2 + 1) (.int .i64 y.2) = flatG encMem (l.set i y) := by
  have h1 := flatG_set encMem_length l i 0 hi (by omega) (.int .i64 y.1) (y.1, l[i].2) rfl
  have h2 := flatG_set encMem_length (l.set i (y.1, l[i].2)) i 1 (by simpa using hi) (by omega) (.int .i64 y.2) y (by simp [encMem])
  rw [List.set_set] at h2
  rw [← h2, ← h1]
  rfl
theorem DelRelP.keep {w wr wr' : World} {b off n cap : Nat} {hh : Option Nat} {l : List (Int × Int)} {p : Int × Int → Bool} {j i : Nat} {cur : List (Int × Int)} (h : DelRelP w wr (.slice (some ⟨b, off, none⟩) n cap) hh l p j i cur) (hhb : hh = some b) (hn : l.length = n) (hj : j < l.length) (hp : p l[j] = false) (hb : Below wr.heap.size wr wr') :
    DelRelP w ((wr'.setCell ⟨b, off + i * 2, none⟩ (.int .i64 l[j].1)).setCell ⟨b, off + i * 2 + 1, none⟩ (.int .i64 l[j].2)) (.slice (some ⟨b, off, none⟩) n cap) hh l p (j + 1) (i + 1) (cur.set i l[j]) := by
  have h1 : (l.take (j + 1)).filter (fun x => !p x) = (l.take j).filter (fun x => !p x) ++ [l[j]] := by
    rw [List.take_succ_eq_append_getElem hj, List.filter_append]
    simp [hp]
  have hlt := h.lt
  have hlen := h.len
  subst hn
  refine ⟨?_, by rw [List.length_set]; exact hlen, ?_, by omega, ?_, ?_, ?_⟩
  · have h2 := ((h.sl.keep (w' := wr') (fun k hk => hb.block k (h.sl.lt k hk))).store (i * 2) (.int .i64 l[j].1)).store (i * 2 + 1) (.int .i64 l[j].2)
    rw [flatP_set2 cur i (by omega) l[j], ← Nat.add_assoc] at h2
    exact h2
  · rw [h1, List.length_append, ← h.i_]
    rfl
  · rw [h1, ← h.done, List.take_succ_eq_append_getElem (by rw [List.length_set]; omega), List.take_set, List.getElem_set_self]
    congr 1
    rw [List.set_eq_of_length_le (by rw [List.length_take]; omega)]
  · rw [List.drop_set, if_pos (by omega)]
    have h2 := congrArg (List.drop 1) h.rest
    simpa [List.drop_drop] using h2
  · exact ((h.chg.trans (Chg.of_below hb hh.toList) (fun k hk => .inl hk)).set (.inl (by rw [hhb]; simp)) _).set (.inl (by rw [hhb]; simp)) _
theorem flatP_take : ∀ (l : List (Int × Int)) (i : Nat), (flatG encMem l).take (i * 2) = flatG encMem (l.take i)
  | [], i => by simp [flatG]
  | a :: r, 0 => by simp [flatG]
  | a :: r, i + 1 => by
    show (encMem a ++ flatG encMem r).take ((i + 1) * 2) = encMem a ++ flatG encMem (r.take i)
    rw [← flatP_take r i, Nat.add_mul, Nat.one_mul, Nat.add_comm, ← encMem_length a, List.take_length_add_append]
/-- The slice cut short behind the clear of what lies behind. -/
theorem DelRelP.cut {w wr : World} {b off n cap : Nat} {hh : Option Nat} {l : List (Int × Int)} {p : Int × Int → Bool} {i : Nat} {cur : List (Int × Int)} (h : DelRelP w wr (.slice (some ⟨b, off, none⟩) n cap) hh l p n i cur) (hhb : hh = some b) (hn : l.length = n) :
    Sl (wr.setCells b (off + i * 2) (List.replicate ((n - i) * 2) (.int .i64 0))) 71 2 (.slice (some ⟨b, off, none⟩) i cap) hh (l.filter fun x => !p x).length (flatG encMem (l.filter fun x => !p x)) ∧ Chg hh.toList w (wr.setCells b (off + i * 2) (List.replicate ((n - i) * 2) (.int .i64 0))) := by
  subst hn
  have hlt := h.lt
  have hd := h.done
  have hi := h.i_
  rw [List.take_of_length_le (Nat.le_refl _)] at hd hi
  rcases h.sl.2 with ⟨_, hv, _⟩ | ⟨b', off', cap', c, hh', hv, hB, hnc, hcm, hcs, ht⟩
  · cases hv
  simp only [Value.slice.injEq, Option.some.injEq, Addr.mk.injEq, and_true, true_and] at hv
  obtain ⟨⟨rfl, rfl⟩, rfl⟩ := hv
  have hB2 := heap_setCells b 71 (List.replicate ((l.length - i) * 2) (.int .i64 0)) (off + i * 2) wr c hB (by simp; omega)
  obtain ⟨y1, y2, y3, y4⟩ := setCells_same b (List.replicate ((l.length - i) * 2) (Value.int .i64 0)) (off + i * 2) wr
  refine ⟨?_, y1.trans h.chg.os, y2.trans h.chg.tape, y3.trans h.chg.output, by rw [y4]; exact h.chg.size, fun k hk hn => (setCells_far b _ _ wr k (fun e => hn (by rw [hhb, e]; simp))).trans (h.chg.block k hk hn)⟩
  rw [← hi]
  refine ⟨?_, .inr ⟨b, off, cap, _, hhb, rfl, hB2, by omega, hcm, ?_, ?_⟩⟩
  · rw [flatG_length encMem_length, ← hi]
  · simp only [List.size_toArray, List.length_append, List.length_take, List.length_drop, List.length_replicate, Array.length_toList]
    omega
  · have hl1 : (c.toList.take (off + i * 2)).length = off + i * 2 := by
      rw [List.length_take, Array.length_toList]
      omega
    show (List.drop off (c.toList.take (off + i * 2) ++ List.replicate ((l.length - i) * 2) (.int .i64 0) ++ _)).take (i * 2) = _
    rw [List.append_assoc, List.drop_append_of_le_length (by omega), List.take_append_of_le_length (by rw [List.length_drop, hl1]; omega), List.drop_take, Nat.add_sub_cancel_left, List.take_take, Nat.min_self]
    have h3 : (c.toList.drop off).take (i * 2) = ((c.toList.drop off).take (l.length * 2)).take (i * 2) := by
      rw [List.take_take, Nat.min_eq_left (by omega)]
    rw [h3, ht, flatP_take, hd]

set_option maxRecDepth 100000 in
set_option maxHeartbeats 4000000 in
theorem delP_any (v : Value) (hh : Option Nat) (l : List (Int × Int)) (p : Int × Int → Bool) (g : Nat) (lb : Array Value) (eg : ∀ args w, (callFunc g args).run Tryz.prog w = .ok (.enter g args) w) (w : World) (hs : Sl w 71 2 v hh l.length (flatG encMem l)) (hn : l.length ≤ 1099511627776)
    (hp : ∀ W, Chg hh.toList w W → ∀ x ∈ l, Calls Tryz.prog g (#[.agg (encMem x).toArray] ++ lb) W fun e w' => e = .returned (.bool (p x)) ∧ Below W.heap.size W w') :
    Calls Tryz.prog 86 #[v, .func (.func g) #[] lb] w fun e w' => ∃ v', e = .returned v' ∧ Sl w' 71 2 v' hh (l.filter fun x => !p x).length (flatG encMem (l.filter fun x => !p x)) ∧ Chg hh.toList w w' := by
  have hix := idxP_any v [] l p g lb eg w (hs.reads [] (by simp)) hn (fun W hb x hx => (hp W (Chg.of_below hb _) x hx).mono fun e w' ⟨h1, h2⟩ => ⟨h1, below_then hb h2⟩)
  rcases place_split p l with ⟨h1, h2⟩ | ⟨a, x, r, h1, h2, h3, h4⟩
  · have hf : (l.filter fun x => !p x) = l := by
      rw [List.filter_eq_self]
      intro x hx
      have := List.any_eq_false.1 h1 x hx
      simpa using this
    rw [hf]
    rw [h2] at hix
    have HS := Lib.hid hs
    clear hp h1 h2 hf hs
    go_enter Tryz.func86, Tryz.ntmps86
    go_wp2_with (first
      | (go_at_call 134; refine hix.mono ?_; rintro e w1 ⟨rfl, hb1⟩; have HB1 := Lib.hid hb1; clear hix hb1)
      | fail)
    go_ret
    exact ⟨_, rfl, HS.out.keep (fun b hb => HB1.out.block b (HS.out.lt b hb)), Chg.of_below HB1.out _⟩
  · rw [h4] at hix
    have hpos : 0 < l.length := by rw [h1, List.length_append, List.length_cons]; omega
    obtain ⟨b, off, cap, hhb, hv, hnc, hcm, hbl, _⟩ := hs.at_ hpos
    subst hv
    obtain ⟨n, hnn⟩ : ∃ n, l.length = n := ⟨_, rfl⟩
    obtain ⟨k, hk⟩ : ∃ k, a.length = k := ⟨_, rfl⟩
    have hkn : k < n := by rw [← hnn, h1, ← hk]; simp
    rw [hk] at hix
    have hfa : a.filter (fun x => !p x) = a := by
      rw [List.filter_eq_self]
      intro y hy
      simp [h3 y hy]
    have hst : DelRelP w w (.slice (some ⟨b, off, none⟩) n cap) hh l p (k + 1) k l := by
      have htk : l.take (k + 1) = a ++ [x] := by
        rw [h1, ← hk, List.take_length_add_append]
        rfl
      have htk2 : (l.take (k + 1)).filter (fun x => !p x) = a := by
        rw [htk, List.filter_append, hfa]
        simp [h2]
      refine ⟨by rw [← hnn]; exact hs, rfl, by rw [htk2, hk], by omega, ?_, rfl, Chg.refl _ _⟩
      rw [htk2, h1, ← hk, List.take_left]
    have hkm : ((k : Int) == -1) = false := by first | (simp; done) | (simp; omega)
    have hkw : IntKind.i64.wrap ((k : Int) + 1) = (k : Int) + 1 := IntWalk.i64_in _ (by omega)
    have HS := Lib.hid hs
    have HP := Lib.hid hp
    have HST := Lib.hid hst
    have HNN := Lib.hid hnn
    have HHB := Lib.hid hhb
    rw [hnn] at hn hnc hix
    rw [hnn]
    clear h1 h2 h3 h4 hfa hst hs hp hnn hhb hpos hk
    go_enter Tryz.func86, Tryz.ntmps86
    go_wp2_with (first
      | (go_at_call 134; refine hix.mono ?_; rintro e w1 ⟨rfl, hb1⟩; have HB1 := Lib.hid hb1; clear hix hb1)
      | fail)
    have HR1 : Hid (DelRelP w w1 (.slice (some ⟨b, off, none⟩) n cap) hh l p (k + 1) k l) := Lib.hid ⟨HST.out.sl.keep (fun b2 hb2 => HB1.out.block b2 (HST.out.sl.lt b2 hb2)), HST.out.len, HST.out.i_, HST.out.lt, HST.out.done, HST.out.rest, Chg.of_below HB1.out _⟩
    go_loopw [5, 6] (fun si sj wr => ∃ (i j : Nat) (cur : List (Int × Int)), j ≤ n ∧ i < j ∧ si = .int .i64 i ∧ sj = .int .i64 j ∧ Hid (DelRelP w wr (.slice (some ⟨b, off, none⟩) n cap) hh l p j i cur)) (fun _ sj _ => n - (intOf sj).toNat)
    case atStart => exact ⟨k, k + 1, l, by omega, by omega, rfl, by go_num, HR1⟩
    case round =>
      obtain ⟨i, j, cur, hjn, hij, rfl, rfl, HR⟩ := hrel
      by_cases hlt : j < n
      · have hltz : (j : Int) < (n : Int) := by omega
        have hj2 : j < l.length := by rw [HNN.out]; exact hlt
        obtain ⟨y, hy⟩ : ∃ y, l[j] = y := ⟨_, rfl⟩
        have hcur : cur[j]? = some y := by
          have h1 := congrArg (fun z => z[0]?) HR.out.rest
          simp only [List.getElem?_drop, Nat.add_zero] at h1
          rw [h1, List.getElem?_eq_getElem hj2, hy]
        obtain ⟨b', off', cap', _, hv', _, _, _, hat⟩ := HR.out.sl.at_ (by rw [HNN.out]; omega)
        have hvi := (Value.slice.inj hv').1
        injection hvi with hvi
        injection hvi with e1 e2
        subst e1 e2
        have hcl0 := HR.out.len
        have hcg : cur[j]'(by omega) = y := by
          rw [List.getElem?_eq_getElem (by omega)] at hcur
          exact Option.some.inj hcur
        obtain ⟨y1, y2⟩ := y
        have cj : wr.cell? ⟨b, off + j * 2, none⟩ = some (.int .i64 y1) := by
          have h1 := (hat (j * 2) (by omega)).1
          have h2 := flatG_get encMem_length cur j 0 (by omega) (by omega)
          rw [Nat.add_zero] at h2
          rw [h1, h2, hcg]
          rfl
        have cj2 : wr.cell? ⟨b, off + j * 2 + 1, none⟩ = some (.int .i64 y2) := by
          have h1 := (hat (j * 2 + 1) (by omega)).1
          have h2 := flatG_get encMem_length cur j 1 (by omega) (by omega)
          rw [Nat.add_assoc, h1, h2, hcg]
          rfl
        have hfl : (flatG encMem cur).length = n * 2 := by rw [flatG_length encMem_length, HR.out.len, HNN.out]
        obtain ⟨ov, hov⟩ : ∃ ov, wr.cell? ⟨b, off + i * 2, none⟩ = some ov := by
          refine ⟨_, (hat (i * 2) (by omega)).1.trans (List.getElem?_eq_getElem ?_)⟩
          omega
        obtain ⟨ov2, hov2⟩ : ∃ ov, wr.cell? ⟨b, off + i * 2 + 1, none⟩ = some ov := by
          rw [Nat.add_assoc]
          refine ⟨_, (hat (i * 2 + 1) (by omega)).1.trans (List.getElem?_eq_getElem ?_)⟩
          omega
        have ci := hov
        have ci2 := hov2
        have fi := (hat (i * 2) (by omega)).2
        have fi2 := (hat (i * 2 + 1) (by omega)).2
        rw [← Nat.add_assoc] at fi2
        have hpc := HP.out (wr.alloc (.cells #[.int .i64 y1, .int .i64 y2] 71)) (HR.out.chg.alloc _) l[j] (List.getElem_mem hj2)
        rw [hy] at hpc
        have hpc : Calls Tryz.prog g (#[.agg #[.int .i64 y1, .int .i64 y2]] ++ lb) (wr.alloc (.cells #[.int .i64 y1, .int .i64 y2] 71)) fun e w' => e = .returned (.bool (p (y1, y2))) ∧ Below (wr.alloc (.cells #[.int .i64 y1, .int .i64 y2] 71)).heap.size (wr.alloc (.cells #[.int .i64 y1, .int .i64 y2] 71)) w' := hpc
        have hiw : IntKind.i64.wrap ((i : Int) + 1) = (i : Int) + 1 := IntWalk.i64_in _ (by omega)
        have hjw : IntKind.i64.wrap ((j : Int) + 1) = (j : Int) + 1 := IntWalk.i64_in _ (by omega)
        have hi1 : (i : Int) < (n : Int) := by omega
        have HY := Lib.hid hy
        have hbl2 : b < wr.heap.size := World.block_lt_of_cell? _ _ cj
        have hbl3 : b < (wr.alloc (.cells #[.int .i64 y1, .int .i64 y2] 71)).heap.size := by rw [World.size_alloc]; omega
        clear hat hv' hcur hy hov hov2 hcg hfl hcl0
        cases hq : p (y1, y2) with
        | true =>
          rw [hq] at hpc
          go_wp2_with (go_at_fn g; refine hpc.mono ?_; rintro e w4 ⟨rfl, hb4⟩; have HB4 := Lib.hid (below_then (below_alloc1 wr _) hb4); clear hpc hb4)
          have HR2 := Lib.hid (HR.out.skip hj2 (by rw [HY.out]; exact hq) HB4.out)
          refine ⟨?_, by simp [intOf]; omega⟩
          first | exact ⟨i, j + 1, cur, by omega, by omega, rfl, by go_num, HR2⟩ | ((repeat apply Exists.intro); exact ⟨⟨i, j + 1, cur, by omega, by omega, rfl, by go_num, HR2⟩, rfl⟩)
        | false =>
          rw [hq] at hpc
          go_wp2_with (go_at_fn g; refine hpc.mono ?_; rintro e w4 ⟨rfl, hb4⟩; have hbw := below_then (below_alloc1 wr (.cells #[.int .i64 y1, .int .i64 y2] 71)) hb4; have ci4 := (hbw.cell (p := ⟨b, off + i * 2, none⟩) hbl2).trans ci; have fi4 := (below_frozen hbw (p := ⟨b, off + i * 2, none⟩) hbl2).trans fi; have cx4 := (hbw.cell (p := ⟨b, off + i * 2 + 1, none⟩) hbl2).trans ci2; have fx4 := (below_frozen hbw (p := ⟨b, off + i * 2 + 1, none⟩) hbl2).trans fi2; have v0 : w4.cell? ⟨wr.heap.size, 0, none⟩ = some (.int .i64 y1) := (hb4.cell (by rw [World.size_alloc]; simp)).trans ((Blk.new wr 71 #[.int .i64 y1, .int .i64 y2]).cell 0); have v1 : w4.cell? ⟨wr.heap.size, 1, none⟩ = some (.int .i64 y2) := (hb4.cell (by rw [World.size_alloc]; simp)).trans ((Blk.new wr 71 #[.int .i64 y1, .int .i64 y2]).cell 1); have HB4 := Lib.hid hbw; clear hpc hb4 hbw)
          have HR2 := HR.out.keep HHB.out HNN.out hj2 (by rw [HY.out]; exact hq) HB4.out
          rw [HY.out] at HR2
          simp only at HR2
          have HR3 := Lib.hid HR2
          clear HR2
          refine ⟨?_, by simp [intOf]; omega⟩
          first | exact ⟨i + 1, j + 1, _, by omega, by omega, by go_num, by go_num, HR3⟩ | ((repeat apply Exists.intro); exact ⟨⟨i + 1, j + 1, _, by omega, by omega, by go_num, by go_num, HR3⟩, rfl⟩)
      · have hltz : ¬ (j : Int) < (n : Int) := by omega
        obtain rfl : j = n := by omega
        obtain ⟨hcutS, hcutC⟩ := HR.out.cut HHB.out HNN.out
        have hBlk : ∀ t, t < (j - i) * 2 → (wr.cell? ⟨b, off + i * 2 + t, none⟩).isSome = true ∧ wr.frozen? ⟨b, off + i * 2 + t, none⟩ = false := fun t ht => by
          obtain ⟨b', off', cap', _, hv', _, _, _, hat⟩ := HR.out.sl.at_ (by rw [HNN.out]; omega)
          have hvi := (Value.slice.inj hv').1
          injection hvi with hvi
          injection hvi with e1 e2
          subst e1 e2
          obtain ⟨z1, z2⟩ := hat (i * 2 + t) (by rw [HNN.out]; omega)
          rw [← Nat.add_assoc] at z1 z2
          refine ⟨?_, z2⟩
          rw [z1, List.getElem?_eq_getElem (by rw [flatG_length encMem_length, HR.out.len, HNN.out]; omega)]
          rfl
        have hcl : ∀ ty, (Builtin.clear_ #[38] ty #[.slice (some ⟨b, off + i * 2, none⟩) (j - i) (cap - i)]).run Tryz.prog wr = .ok (.tuple #[]) (wr.setCells b (off + i * 2) (List.replicate ((j - i) * 2) (.int .i64 0))) := fun ty =>
          run_clear_mem wr _ 71 ty Tryz.underlying38 (fun W => by first | rfl | kernel_rfl) b (off + i * 2) (j - i) (cap - i) (by omega) (fun t ht => (hBlk t ht).1) (fun t ht => (hBlk t ht).2)
        have HCS := Lib.hid hcutS
        have HCC := Lib.hid hcutC
        have q1 : (0 : Int) ≤ (i : Int) := by omega
        have q2 : (i : Int) ≤ (j : Int) := by omega
        have q3 : (j : Int) ≤ (cap : Int) := by omega
        have q4 : ¬ cap = i := by omega
        have q5 : ((cap : Int) == (i : Int)) = false := by simp; omega
        have q6 : i ≤ cap := by omega
        have q7 : i ≤ j := by omega
        clear hBlk hcutS hcutC
        go_wp2_with fail
        go_ret
        exact ⟨_, rfl, HCS.out, HCC.out⟩

end Go.Proofs.YtmbibhphpjmboaaGreatDoor

namespace Go.Proofs.YtmbibhphpjmboaaGreatDoor
open Go.Shelf Go.RowKit Go.Lib
attribute [local go_sem ↓] Go.wp_at_zero Go.wp_at_succ

theorem Try.infoInt9 : (Tryz.prog.info? 3).map (fun i => (i.zero, i.size, i.bytes)) = some (some (.int .i64 0), 1, 8) := by kernel_rfl

set_option maxRecDepth 100000 in
set_option maxHeartbeats 4000000 in
theorem growNil_any (n : Nat) (hn : n ≤ 1099511627776) (w : World) : Calls Tryz.prog 138 #[.slice none 0 0, .int .i64 n] w fun e w' => ∃ v h, e = .returned v ∧ Sl w' 3 1 v h 0 [] ∧ (∀ b, h = some b → w.heap.size ≤ b) ∧ Below w.heap.size w w' := by
  rcases Nat.eq_zero_or_pos n with h0 | hpos
  · subst h0
    go_enter Tryz.func138, Tryz.ntmps138
    go_wp2_with fail
    go_ret
    exact ⟨_, none, rfl, Sl.nil _ _ _, fun b hb => (by cases hb), Below.refl _ _⟩
  · obtain ⟨i0, hi, hz0, hz1, hz2⟩ := info_parts Try.infoInt9
    have h1 : ¬ ((n : Int) < 0) := by omega
    have h3 : IntKind.i64.wrap (n : Int) = (n : Int) := IntWalk.i64_in _ (by omega)
    have h4 : (0 : Int) < (n : Int) := by omega
    have hrz : ∀ ty, (Builtin.append_ #[32, 3] ty #[.slice none 0 0, .int .i64 (n : Int)]).run Tryz.prog w =
        .ok (.slice (some ⟨w.heap.size, 0, none⟩) n (grownCap w n 0 3)) (w.drew.alloc (.cells ((([] : List Value).toArray ++ Builtin.zeroCells (Value.int .i64 0).cells n ++ Builtin.zeroCells (Value.int .i64 0).cells (grownCap w n 0 3 - n))) 3)) := fun ty => by
      have h := Lib.run_append_grow_zeros (P := Tryz.prog) w 32 3 ty 3 i0 (.int .i64 0) .i64 .i64 Tryz.underlying32 Tryz.underlying3 hi hz0 none 0 0 [] (run_firstCells_none w.drew i0.size 0 0 0) n hpos (by rw [hz1]; decide) (by omega) (by omega) (by rw [hz2]; omega) (growslice_fits (by omega) (by rw [hz2]; omega))
      simp only [Nat.zero_add] at h
      exact h
    have hGn : n ≤ grownCap w n 0 3 := grownCap_ge w _ _ _
    have hGm : grownCap w n 0 3 ≤ maxLen := grownCap_le_maxLen w n 0 3 (by unfold maxLen; omega)
    obtain ⟨G, hG⟩ : ∃ G, G = grownCap w n 0 3 := ⟨_, rfl⟩
    rw [← hG] at hrz hGn hGm
    obtain ⟨cs, hcs⟩ : ∃ cs : Array Value, cs = ([] : List Value).toArray ++ Builtin.zeroCells (Value.int .i64 0).cells n ++ Builtin.zeroCells (Value.int .i64 0).cells (G - n) := ⟨_, rfl⟩
    rw [← hcs] at hrz
    have hsz : cs.size = G := by
      rw [hcs]
      simp [Builtin.zeroCells, Value.cells]
      omega
    have HSZ := Lib.hid hsz
    have HGM := Lib.hid hGm
    have hG0 : (0 : Int) ≤ (G : Int) := by omega
    clear hG hcs hsz
    go_enter Tryz.func138, Tryz.ntmps138
    go_wp2_with (at_builtin; refine Lib.wpList_append_run _ rfl _ _ _ _ rfl _ _ rfl rfl _ _ (hrz _) ?_)
    go_ret
    refine ⟨_, rfl, some w.heap.size, ⟨rfl, .inr ⟨w.heap.size, 0, G, cs, rfl, rfl, Blk.new w.drew 3 cs, Nat.zero_le _, HGM.out, by rw [HSZ.out]; omega, by simp⟩⟩, fun b hb => by injection hb with hb; omega, ?_⟩
    exact below_then (below_drew1 w) (below_alloc1 w.drew _)

/-- What lies joined behind so many rounds. -/
def ccL (l1 l2 : List Int) : Nat → List Int
  | 0 => []
  | 1 => l1
  | _ => l1 ++ l2
structure CcRel (w wr : World) (l1 l2 : List Int) (i : Nat) (v : Value) : Prop where
  below : Below w.heap.size w wr
  out : ∃ h, Sl wr 3 1 v h (ccL l1 l2 i).length ((ccL l1 l2 i).map encI) ∧ ∀ b, h = some b → w.heap.size ≤ b
theorem CcRel.next {w wr w' : World} {l1 l2 l3 : List Int} {i : Nat} {v' : Value} {h h' : Option Nat} {n : Nat} (hb : Below w.heap.size w wr) (hf : ∀ b, h = some b → w.heap.size ≤ b) (hs : Sl w' 3 1 v' h' n ((ccL l1 l2 i).map encI ++ l3.map encI)) (hn : n = (ccL l1 l2 (i + 1)).length) (hc : Chg h.toList wr w') (ho : h' = h ∨ ∃ g, h' = some g ∧ wr.heap.size ≤ g) (he : ccL l1 l2 (i + 1) = ccL l1 l2 i ++ l3) : CcRel w w' l1 l2 (i + 1) v' := by
  subst hn
  refine ⟨hb.trans (hc.below hb.size (fun k hk => hf k (by simpa using hk))), h', ?_, fun b hb2 => ?_⟩
  · have h1 := hs
    rw [← List.map_append, ← he] at h1
    exact h1
  · rcases ho with h1 | ⟨g, h1, h2⟩
    · exact hf b (by rw [← h1]; exact hb2)
    · rw [h1] at hb2
      injection hb2 with hb2
      have := hb.size
      omega
theorem encIs_one (l : List Int) : ∀ u ∈ l.map encI, u.oneCell' = true := by
  intro u hu
  obtain ⟨x, _, rfl⟩ := List.mem_map.1 hu
  rfl

set_option maxRecDepth 100000 in
set_option maxHeartbeats 4000000 in
theorem concat2B (A1 A2 : Addr) (c1 c2 : Nat) (l1 l2 : List Int) (w w0 : World) (B : Nat) (hb0 : Below w.heap.size w w0) (hbk : Blk w0 B 32 #[.slice (some A1) l1.length c1, .slice (some A2) l2.length c2]) (h1 : RdS w [] 1 (.slice (some A1) l1.length c1) l1.length (l1.map encI)) (h2 : RdS w [] 1 (.slice (some A2) l2.length c2) l2.length (l2.map encI)) (hn1 : l1.length ≤ 4294967296) (hn2 : l2.length ≤ 4294967296) :
    Calls Tryz.prog 92 #[.slice (some ⟨B, 0, none⟩) 2 2] w0 fun e w' => ∃ v h, e = .returned v ∧ Sl w' 3 1 v h (l1 ++ l2).length ((l1 ++ l2).map encI) ∧ (∀ b, h = some b → w.heap.size ≤ b) ∧ Below w.heap.size w w' := by
  obtain ⟨i0, hi, hz0, hz1, hz2⟩ := info_parts Try.infoInt9
  obtain ⟨n1, hnn1⟩ : ∃ n1, l1.length = n1 := ⟨_, rfl⟩
  obtain ⟨n2, hnn2⟩ : ∃ n2, l2.length = n2 := ⟨_, rfl⟩
  have hat1 : ∀ W : World, Below w.heap.size w W → ∀ j u, (l1.map encI)[j]? = some u → W.cell? (A1.add j) = some u := fun W hb j u hu => by
    have hj : j < l1.length := by
      have := (List.getElem?_eq_some_iff.1 hu).1
      simpa using this
    obtain ⟨b, off, cap, hv, _, _, hlt, _, hat⟩ := h1.at_ (by omega)
    have e1 := (Value.slice.inj hv).1
    injection e1 with e1
    subst e1
    rw [Addr.add_lit]
    exact (hb.cell hlt).trans ((hat j (by omega)).trans hu)
  have hat2 : ∀ W : World, Below w.heap.size w W → ∀ j u, (l2.map encI)[j]? = some u → W.cell? (A2.add j) = some u := fun W hb j u hu => by
    have hj : j < l2.length := by
      have := (List.getElem?_eq_some_iff.1 hu).1
      simpa using this
    obtain ⟨b, off, cap, hv, _, _, hlt, _, hat⟩ := h2.at_ (by omega)
    have e1 := (Value.slice.inj hv).1
    injection e1 with e1
    subst e1
    rw [Addr.add_lit]
    exact (hb.cell hlt).trans ((hat j (by omega)).trans hu)
  rw [hnn1] at hn1 hbk
  rw [hnn2] at hn2 hbk
  have hgr := fun W => growNil_any (n1 + n2) (by omega) W
  have HAT1 := Lib.hid hat1
  have HAT2 := Lib.hid hat2
  have HN1 := Lib.hid hnn1
  have HN2 := Lib.hid hnn2
  have HB0 := Lib.hid hb0
  have HBK := Lib.hid hbk
  obtain ⟨ns, hns, hnsb⟩ : ∃ ns : Nat, (n1 : Int) + (n2 : Int) = (ns : Int) ∧ ns = n1 + n2 := ⟨n1 + n2, by omega, rfl⟩
  rw [← hnsb] at hgr
  have hnsb2 : ns ≤ 8589934592 := by omega
  have HNS := Lib.hid hnsb
  have HGR := Lib.hid hgr
  clear hat1 hat2 hnn1 hnn2 hb0 hbk h1 h2 hnsb hgr
  have d0 : w0.cell? ⟨B, 0, none⟩ = some (.slice (some A1) n1 c1) := HBK.out.cell 0
  have d1 : w0.cell? ⟨B, 1, none⟩ = some (.slice (some A2) n2 c2) := HBK.out.cell 1
  go_enter Tryz.func92, Tryz.ntmps92
  go_wp2_with fail
  go_loopw [3, 11] (fun sz iv wr => ∃ i : Nat, i ≤ 2 ∧ iv = .int .i64 i ∧ sz = .int .i64 (if i = 0 then 0 else if i = 1 then (n1 : Int) else (ns : Int)) ∧ wr = w0) (fun _ iv _ => 2 - (intOf iv).toNat)
  case atStart => exact ⟨0, by omega, rfl, rfl, rfl⟩
  case round =>
    obtain ⟨i, hi2, rfl, rfl, hwr⟩ := hrel
    subst hwr
    have h3 : i = 0 ∨ i = 1 ∨ i = 2 := by omega
    rcases h3 with rfl | rfl | rfl
    · go_wp2_with fail
      exact ⟨⟨1, by omega, rfl, rfl, trivial⟩, by simp [intOf]⟩
    · go_wp2_with fail
      exact ⟨⟨2, by omega, rfl, rfl, trivial⟩, by simp [intOf]⟩
    · go_wp2_with (first
        | (go_at_call 138; refine (HGR.out _).mono ?_; rintro e w1 ⟨v1, h1, rfl, hs1, hf1, hb1⟩; have HC1 : Hid (CcRel wr w1 l1 l2 0 v1) := Lib.hid ⟨hb1, h1, hs1, hf1⟩; clear hs1 hf1 hb1)
        | fail)
      obtain ⟨w0, hw0⟩ : ∃ w0 : World, w0 = wr := ⟨_, rfl⟩
      rw [← hw0] at HC1 d0 d1 HBK HB0
      clear hw0
      go_loopw [6, 27] (fun v iv wr => ∃ (i : Nat) (v' : Value), i ≤ 2 ∧ iv = .int .i64 i ∧ v = v' ∧ Hid (CcRel w0 wr l1 l2 i v')) (fun _ iv _ => 2 - (intOf iv).toNat)
      case atStart => exact ⟨0, v1, by omega, rfl, rfl, HC1⟩
      case round =>
      obtain ⟨i, v', hi2, rfl, rfl, HC⟩ := hrel
      have h3 : i = 0 ∨ i = 1 ∨ i = 2 := by omega
      rcases h3 with rfl | rfl | rfl
      · obtain ⟨h, hs, hf⟩ := HC.out.out
        have e0 : wr.cell? ⟨B, 0, none⟩ = some (.slice (some A1) n1 c1) := (HC.out.below.cell (p := ⟨B, 0, none⟩) HBK.out.lt).trans d0
        have hww := below_then HB0.out HC.out.below
        have HF := Lib.hid hf
        obtain ⟨nc, hnc⟩ : ∃ nc, (ccL l1 l2 0).length = nc := ⟨_, rfl⟩
        rw [hnc] at hs
        have hncb : nc ≤ 4294967296 := by
          rw [← hnc]
          show 0 ≤ _
          omega
        have HNC := Lib.hid hnc
        have HS := Lib.hid hs
        clear hs hf hnc
        go_wp2_with (first
          | (at_builtin; refine wpList_append_slA _ rfl _ _ 32 rfl Tryz.underlying32 hi hz0 hz1 hz2 rfl (by decide) HS.out rfl A1 n1 c1 (l1.map encI) rfl (by rw [List.length_map, HN1.out]; omega) (HAT1.out wr hww) (encIs_one l1) (by unfold maxLen; omega) (by omega) ?_)
          | fail)
        intro v2 h2 w7 hs7 hc7 ho7
        have HC2 : Hid (CcRel w0 w7 l1 l2 (0 + 1) v2) := Lib.hid (CcRel.next HC.out.below HF.out hs7 (by rw [← HNC.out]; show _ = (l1).length; simp [ccL, HN1.out]) hc7 ho7 (by simp [ccL]))
        clear hs7 hc7 ho7
        go_wp2_with fail
        exact ⟨⟨0 + 1, v2, by omega, by go_num, rfl, HC2⟩, by simp [intOf]⟩
      · obtain ⟨h, hs, hf⟩ := HC.out.out
        have e1 : wr.cell? ⟨B, 1, none⟩ = some (.slice (some A2) n2 c2) := (HC.out.below.cell (p := ⟨B, 1, none⟩) HBK.out.lt).trans d1
        have hww := below_then HB0.out HC.out.below
        have HF := Lib.hid hf
        obtain ⟨nc, hnc⟩ : ∃ nc, (ccL l1 l2 1).length = nc := ⟨_, rfl⟩
        rw [hnc] at hs
        have hncb : nc ≤ 4294967296 := by
          rw [← hnc]
          show l1.length ≤ _
          rw [HN1.out]
          exact hn1
        have HNC := Lib.hid hnc
        have HS := Lib.hid hs
        clear hs hf hnc
        go_wp2_with (first
          | (at_builtin; refine wpList_append_slA _ rfl _ _ 32 rfl Tryz.underlying32 hi hz0 hz1 hz2 rfl (by decide) HS.out rfl A2 n2 c2 (l2.map encI) rfl (by rw [List.length_map, HN2.out]; omega) (HAT2.out wr hww) (encIs_one l2) (by unfold maxLen; omega) (by omega) ?_)
          | fail)
        intro v2 h2 w7 hs7 hc7 ho7
        have HC2 : Hid (CcRel w0 w7 l1 l2 (1 + 1) v2) := Lib.hid (CcRel.next HC.out.below HF.out hs7 (by rw [← HNC.out]; show _ = (l1 ++ l2).length; simp [ccL, HN2.out]) hc7 ho7 (by simp [ccL]))
        clear hs7 hc7 ho7
        go_wp2_with fail
        exact ⟨⟨1 + 1, v2, by omega, by go_num, rfl, HC2⟩, by simp [intOf]⟩
      · go_wp2_with fail
        go_ret
        obtain ⟨h, hs, hf⟩ := HC.out.out
        exact ⟨_, h, rfl, hs, fun b hb => (by have := HB0.out.size; have := hf b hb; omega), below_then HB0.out HC.out.below⟩

theorem concat2_any (A1 A2 : Addr) (c1 c2 : Nat) (l1 l2 : List Int) (w : World) (h1 : RdS w [] 1 (.slice (some A1) l1.length c1) l1.length (l1.map encI)) (h2 : RdS w [] 1 (.slice (some A2) l2.length c2) l2.length (l2.map encI)) (hn1 : l1.length ≤ 4294967296) (hn2 : l2.length ≤ 4294967296) :
    Calls Tryz.prog 92 #[.slice (some ⟨w.heap.size, 0, none⟩) 2 2] (w.alloc (.cells #[.slice (some A1) l1.length c1, .slice (some A2) l2.length c2] 32)) fun e w' => ∃ v h, e = .returned v ∧ Sl w' 3 1 v h (l1 ++ l2).length ((l1 ++ l2).map encI) ∧ (∀ b, h = some b → w.heap.size ≤ b) ∧ Below w.heap.size w w' :=
  concat2B A1 A2 c1 c2 l1 l2 w _ _ (below_alloc1 _ _) (Blk.new _ _ _) h1 h2 hn1 hn2

end Go.Proofs.YtmbibhphpjmboaaGreatDoor

namespace Go.Proofs.YtmbibhphpjmboaaGreatDoor
open Go.Shelf Go.RowKit
attribute [local go_sem ↓] Go.wp_at_zero Go.wp_at_succ

set_option maxRecDepth 100000 in
set_option maxHeartbeats 4000000 in
theorem place_none (w : World) (g : Nat) (q : Lies) (x : Acc) (id : Int) (bs : List Int) (vb : Value) (h : StoreAt w g q x) (hf : Fit x) (hno : id ∉ idsMl x.mails) :
    Calls Tryz.prog 31 #[.pointer (some ⟨g, 0, none⟩), .int .i64 id, vb] w (ErrOut w g q (placeP x id bs)) := by
  have hno2 : id ∉ idsMl (q.ms.map (·.p)) := by rw [h.same]; exact hno
  obtain ⟨h1, h2⟩ := mail_none hno2
  rw [h.same] at h2
  have hres : placeP x id bs = (x, 6) := by
    unfold placeP
    rw [h2]
  rw [hres]
  have hmc := h.mc hf id
  rw [h1] at hmc
  have H := Lib.hid h
  clear hno hno2 h1 h2 hres h hf
  go_enter Tryz.func31, Tryz.ntmps31
  go_wp2_with (first
    | (go_at_call 63; refine hmc.mono ?_; rintro e w1 ⟨rfl, hb1⟩; have HB1 := Lib.hid hb1; clear hb1)
    | fail)
  go_ret
  exact ⟨rfl, q, Turned.of_below H.out HB1.out⟩

set_option maxRecDepth 100000 in
set_option maxHeartbeats 4000000 in
theorem place_empty (w : World) (g : Nat) (q : Lies) (x : Acc) (id : Int) (A : Option Addr) (c : Nat) (h : StoreAt w g q x) (hf : Fit x) (i : Nat) (hi : i < q.ms.length) (hpl : place (fun m : MailM => decide (m.p.id = id)) q.ms = (i : Int)) (hfi : x.mails.find? (fun m => decide (m.id = id)) = some q.ms[i].p) :
    Calls Tryz.prog 31 #[.pointer (some ⟨g, 0, none⟩), .int .i64 id, .slice A 0 c] w (ErrOut w g q (placeP x id [])) := by
  have hres : placeP x id [] = (x, 1) := by
    unfold placeP
    rw [hfi]
    simp
  rw [hres]
  have hmc := h.mc hf id
  rw [hpl] at hmc
  have hi3 : ¬ (i : Int) < 0 := by omega
  have H := Lib.hid h
  clear hres hfi hpl h hf
  go_enter Tryz.func31, Tryz.ntmps31
  go_wp2_with (first
    | (go_at_call 63; refine hmc.mono ?_; rintro e w1 ⟨rfl, hb1⟩; have HB1 := Lib.hid hb1; clear hb1)
    | fail)
  go_ret
  exact ⟨rfl, q, Turned.of_below H.out HB1.out⟩

set_option maxRecDepth 100000 in
set_option maxHeartbeats 4000000 in
theorem place_unknown (w : World) (g : Nat) (q : Lies) (x : Acc) (id : Int) (bs : List Int) (vb : Value) (Sb : List Nat) (h : StoreAt w g q x) (hf : Fit x) (hr : RdS w Sb 1 vb bs.length (bs.map encI)) (hbl : bs.length ≤ 1099511627776) (hne : bs ≠ []) (i : Nat) (hi : i < q.ms.length) (hpl : place (fun m : MailM => decide (m.p.id = id)) q.ms = (i : Int)) (hfi : x.mails.find? (fun m => decide (m.id = id)) = some q.ms[i].p)
    (hw : ((rise bs).any fun id => !hasBox x.boxes id) = true) :
    Calls Tryz.prog 31 #[.pointer (some ⟨g, 0, none⟩), .int .i64 id, vb] w (ErrOut w g q (placeP x id bs)) := by
  have hres : placeP x id bs = (x, 6) := by
    unfold placeP
    rw [hfi]
    simp only
    rw [if_neg hne, if_pos hw]
  rw [hres]
  obtain ⟨Ab, cb, hvb, _, _⟩ := hr.form
  subst hvb
  obtain ⟨nb, hnb⟩ : ∃ nb, bs.length = nb := ⟨_, rfl⟩
  have hnbp : 0 < nb := by
    rw [← hnb]
    exact List.length_pos_iff.2 hne
  have hmc := h.mc hf id
  rw [hpl] at hmc
  have hi3 : ¬ (i : Int) < 0 := by omega
  have hbn : x.boxes.length ≤ 1099511627776 := by have := hf.nb; have := hf.clock; have := hf.cfg.mod; omega
  have hwa := fun W (hb : Below w.heap.size w W) => wanted_any W g q x (h.later hb) hbn bs _ Sb (hr.below hb) hbl
  rw [hw] at hwa
  have hq0 : ((nb : Int) == 0) = false := by simp; omega
  rw [hnb] at hwa
  rw [hnb]
  have H := Lib.hid h
  have HWA := Lib.hid hwa
  clear hwa hpl hw hr h hf hne hnb hfi hres
  go_enter Tryz.func31, Tryz.ntmps31
  go_wp2_with (first
    | (go_at_call 63; refine hmc.mono ?_; rintro e w1 ⟨rfl, hb1⟩; have hwc := HWA.out w1 hb1; have HB1 := Lib.hid hb1; clear hmc hb1)
    | (go_at_call 52; refine hwc.mono ?_; rintro e w2 ⟨v2, h2, rfl, hs2, ho2, hb2⟩; obtain ⟨A2, c2, rfl, _, _⟩ := hs2.form; have HB2 := Lib.hid (below_then HB1.out hb2); clear hwc hs2 ho2 hb2)
    | fail)
  go_ret
  exact ⟨rfl, q, Turned.of_below H.out (below_then HB2.out (below_alloc1 _ _))⟩

end Go.Proofs.YtmbibhphpjmboaaGreatDoor

namespace Go.Proofs.YtmbibhphpjmboaaGreatDoor
open Go.Shelf Go.RowKit
attribute [local go_sem ↓] Go.wp_at_zero Go.wp_at_succ

set_option maxRecDepth 100000 in
set_option maxHeartbeats 4000000 in
theorem place_ends (w : World) (g : Nat) (q : Lies) (x : Acc) (id : Int) (bs : List Int) (vb : Value) (Sb : List Nat) (h : StoreAt w g q x) (hf : Fit x) (hr : RdS w Sb 1 vb bs.length (bs.map encI)) (hbl : bs.length ≤ 1099511627776) (hne : bs ≠ []) (i : Nat) (hi : i < q.ms.length) (hpl : place (fun m : MailM => decide (m.p.id = id)) q.ms = (i : Int))
    (hw : ((rise bs).any fun id => !hasBox x.boxes id) = false) (m0 : MailM) (hm0 : q.ms[i] = m0) (fr lf : List Int) (hfr : ((rise bs).filter fun b => !decide (b ∈ ids1 m0.p.members)) = fr) (hlf : ((ids1 m0.p.members).filter fun b => !decide (b ∈ rise bs)) = lf) (hsome : 0 < fr.length + lf.length) (hen : x.cfg.maxMod ≤ x.clock) :
    Calls Tryz.prog 31 #[.pointer (some ⟨g, 0, none⟩), .int .i64 id, vb] w fun e w' => e = .returned (.int .i64 11) ∧ Below w.heap.size w w' := by
  have H := Lib.hid h
  have hin : ∀ j ∈ fr, j ∈ ids x.boxes := fun j hj => by
    rw [← hfr] at hj
    have h1 := (List.mem_filter.1 hj).1
    have h2 := List.any_eq_false.1 hw j h1
    exact (hasBox_iff x.boxes j).1 (by simpa using h2)
  have HIN := Lib.hid hin
  have hfrl : fr.length ≤ (rise bs).length := by rw [← hfr]; exact List.length_filter_le _ _
  have hlfl : lf.length ≤ m0.p.members.length := by rw [← hlf]; exact Nat.le_trans (List.length_filter_le _ _) (by simp [ids1])
  obtain ⟨Ab, cb, hvb, _, _⟩ := hr.form
  subst hvb
  obtain ⟨nb, hnb⟩ : ∃ nb, bs.length = nb := ⟨_, rfl⟩
  have hnbp : 0 < nb := by
    rw [← hnb]
    exact List.length_pos_iff.2 hne
  have hil : i < x.mails.length := by rw [← h.msLen]; exact hi
  obtain ⟨b, off, cap, hv, hhm, hnc, hcm, hblt, hat⟩ := h.mailAt i hil hi
  rw [hm0] at hat
  have hp0 := h.parts _ (List.getElem_mem hi)
  rw [hm0] at hp0
  obtain ⟨Ak0, ck0, hkv, _, _⟩ := hp0.keys.form
  obtain ⟨Av0, cv0, hmv, _, _⟩ := hp0.mem.form
  have hmx : m0.p ∈ x.mails := by rw [← h.same, ← hm0]; exact List.mem_map_of_mem (List.getElem_mem hi)
  have hnme := hf.nmem hmx
  have hmc := h.mc hf id
  rw [hpl] at hmc
  have hi3 : ¬ (i : Int) < 0 := by omega
  have hi2 : (0 : Int) ≤ (i : Int) := by omega
  obtain ⟨n, hnn⟩ : ∃ n, x.mails.length = n := ⟨_, rfl⟩
  rw [hnn] at hv
  have hi1 : (i : Int) < (n : Int) := by omega
  have hbn : x.boxes.length ≤ 1099511627776 := by have := hf.nb; have := hf.clock; have := hf.cfg.mod; omega
  have hrl : (rise bs).length ≤ 1099511627776 := Nat.le_trans (rise_length _) hbl
  have hwa := fun W (hb : Below w.heap.size w W) => wanted_any W g q x (h.later hb) hbn bs _ Sb (hr.below hb) hbl
  rw [hw] at hwa
  have hq0 : ((nb : Int) == 0) = false := by simp; omega
  have hcs : ∀ W, Below w.heap.size w W → W.cell? ⟨g, 11, none⟩ = some (.slice (some ⟨b, off, none⟩) n cap) ∧ ∀ j, j < 8 → W.cell? ⟨b, off + i * 8 + j, none⟩ = (encM m0)[j]? := fun W hb => ⟨by rw [(h.later hb).cell11, hv], fun j hj => (hb.cell hblt).trans (hat j hj).1⟩
  have hme : ∀ W, Below w.heap.size w W → RdS W [] 2 m0.mv m0.p.members.length (flatG encMem m0.p.members) := fun W hb => (hp0.mem.below hb).sub (fun _ _ _ hm => by cases hm)
  rw [hnb] at hwa
  rw [hnb]
  obtain ⟨ns, hns⟩ : ∃ ns, (rise bs).length = ns := ⟨_, rfl⟩
  rw [hns] at hwa hrl
  have HWA := Lib.hid hwa
  have HCS := Lib.hid hcs
  have HME := Lib.hid hme
  have HKV := Lib.hid hkv
  have HMV := Lib.hid hmv
  have HFR := Lib.hid hfr
  have HLF := Lib.hid hlf
  have HNS := Lib.hid hns
  have HFRL := Lib.hid hfrl
  have HLFL := Lib.hid hlfl
  have HSOME := Lib.hid hsome
  clear hin hwa hcs hme hkv hmv hfr hlf hns hpl hw hr hv hat hp0 hm0 hmx h hf hne hnb hnn hhm hfrl hlfl hsome
  go_enter Tryz.func31, Tryz.ntmps31
  go_upto_region 11 with (first
    | (go_at_call 63; refine hmc.mono ?_; rintro e w1 ⟨rfl, hb1⟩; have hwc := HWA.out w1 hb1; have HB1 := Lib.hid hb1; clear hmc hb1)
    | (go_at_call 52; refine hwc.mono ?_; rintro e w2 ⟨v2, h2, rfl, hs2, ho2, hb2⟩; obtain ⟨A2, c2, rfl, _, _⟩ := hs2.form; have HS2 := Lib.hid hs2; have HO2 := Lib.hid ho2; have HB2 := Lib.hid (below_then HB1.out hb2); clear hwc hs2 ho2 hb2)
    | fail)
  obtain ⟨wa, hwa⟩ : ∃ wa : World, wa = w2.alloc (.cells #[.slice A2 ns c2] 32) := ⟨_, rfl⟩
  rw [← hwa]
  obtain ⟨C, hC⟩ : ∃ C, C = w2.heap.size := ⟨_, rfl⟩
  rw [← hC]
  have dC : wa.cell? ⟨C, 0, none⟩ = some (.slice A2 ns c2) := by rw [hwa, hC]; exact (Blk.new w2 32 #[.slice A2 ns c2]).cell 0
  have hba : Below w.heap.size w wa := by rw [hwa]; exact below_then HB2.out (below_alloc1 _ _)
  have hsa : Sl wa 3 1 (.slice A2 ns c2) h2 ns ((rise bs).map encI) := by rw [hwa]; exact HS2.out.alloc _
  obtain ⟨k11, hat⟩ := HCS.out wa hba
  have b0 : wa.cell? ⟨b, off + i * 8, none⟩ = some (.int .i64 m0.p.id) := hat 0 (by omega)
  have b1 : wa.cell? ⟨b, off + i * 8 + 1, none⟩ = some (.int .i64 m0.p.thread) := hat 1 (by omega)
  have b2 : wa.cell? ⟨b, off + i * 8 + 2, none⟩ = some (.string ⟨m0.p.text.toArray⟩) := hat 2 (by omega)
  have b3 : wa.cell? ⟨b, off + i * 8 + 3, none⟩ = some (.int .i64 m0.p.at_) := hat 3 (by omega)
  have b4 : wa.cell? ⟨b, off + i * 8 + 4, none⟩ = some (.slice Ak0 m0.p.keys.length ck0) := (hat 4 (by omega)).trans (by rw [← HKV.out]; rfl)
  have b5 : wa.cell? ⟨b, off + i * 8 + 5, none⟩ = some (.slice Av0 m0.p.members.length cv0) := (hat 5 (by omega)).trans (by rw [← HMV.out]; rfl)
  have b6 : wa.cell? ⟨b, off + i * 8 + 6, none⟩ = some (.int .i64 m0.p.mod) := hat 6 (by omega)
  have b7 : wa.cell? ⟨b, off + i * 8 + 7, none⟩ = some (.int .i64 m0.p.born) := hat 7 (by omega)
  have hwi := within_any wa m0.p.id m0.p.thread m0.p.at_ m0.p.mod m0.p.born ⟨m0.p.text.toArray⟩ (.slice Ak0 m0.p.keys.length ck0) (.slice Av0 m0.p.members.length cv0) m0.p.members (by
    have h1 := HME.out wa hba
    rw [HMV.out] at h1
    exact h1) (by omega)
  have HBA := Lib.hid hba
  have HSA := Lib.hid hsa
  have HDC := Lib.hid dC
  clear hat hwa hC hba hsa dC
  go_upto_region 12 with (first
    | (go_at_call 66; refine hwi.mono ?_; rintro e w3 ⟨v3, h3, rfl, hs3, ho3, hb3⟩; obtain ⟨A3, c3, rfl, _, _⟩ := hs3.form; have HS3 := Lib.hid hs3; have HO3 := Lib.hid ho3; have HB3 := Lib.hid hb3; clear hwi hs3 ho3 hb3)
    | fail)
  clear b0 b1 b2 b3 b4 b5 b6 b7 k11
  obtain ⟨nw, hnw⟩ : ∃ nw, m0.p.members.length = nw := ⟨_, rfl⟩
  have HNW : Hid ((ids1 m0.p.members).length = nw) := Lib.hid (by rw [← hnw]; simp [ids1])
  obtain ⟨wb, hwb⟩ : ∃ wb : World, wb = w3.alloc (.cells #[.slice A3 m0.p.members.length c3] 32) := ⟨_, rfl⟩
  rw [← hwb]
  obtain ⟨D, hD⟩ : ∃ D, D = w3.heap.size := ⟨_, rfl⟩
  rw [← hD]
  have hbb : Below wa.heap.size wa wb := by rw [hwb]; exact below_then HB3.out (below_alloc1 _ _)
  have dD : wb.cell? ⟨D, 0, none⟩ = some (.slice A3 nw c3) := by rw [hwb, hD, ← hnw]; exact (Blk.new w3 32 #[.slice A3 m0.p.members.length c3]).cell 0
  have dC : wb.cell? ⟨C, 0, none⟩ = some (.slice A2 ns c2) := (hbb.cell (p := ⟨C, 0, none⟩) (World.block_lt_of_cell? _ _ HDC.out)).trans HDC.out
  have hsb2 : Sl wb 3 1 (.slice A2 ns c2) h2 (rise bs).length ((rise bs).map encI) := by rw [HNS.out]; exact HSA.out.keep (fun b2 hb2 => hbb.block b2 (HSA.out.lt b2 hb2))
  have hsb3 : Sl wb 3 1 (.slice A3 nw c3) h3 (ids1 m0.p.members).length ((ids1 m0.p.members).map encI) := by
    rw [HNW.out, hwb, ← hnw]
    exact HS3.out.alloc _
  have hcl := cloneI_any wb (.slice A2 ns c2) (rise bs) [] (hsb2.reads [] (by simp)) (by rw [HNS.out]; exact hrl)
  rw [HNS.out] at hcl
  have hnwb : nw ≤ 1099511627776 := by omega
  have HBB := Lib.hid (below_then HBA.out hbb)
  have HSB2 := Lib.hid hsb2
  have HSB3 := Lib.hid hsb3
  have HDD := Lib.hid dD
  have HDC2 := Lib.hid dC
  clear hwb hD hbb hsb2 hsb3 dD hnw
  go_upto_region 13 with (first
    | (go_at_call 82; refine hcl.mono ?_; rintro e w4 ⟨v4, h4, rfl, hs4, hb4, ho4⟩; have hdl := delBy (w0 := wb) (w4 := w4) (v4 := v4) (h4 := h4) (l := rise bs) (k := ids1 m0.p.members) 83 (enters_of Tryz.func83 (by kernel_rfl) rfl) (fun y W hB hr hn => inPred1_any y D _ _ W hB hr hn) HDD.out HSB3.out (by rw [HNW.out]; exact hnwb) (by rw [HNS.out]; exact hs4) (by rw [HNS.out]; exact hrl) hb4 ho4; rw [HFR.out] at hdl; clear hcl hs4 ho4 hb4)
    | (go_at_call 81; refine hdl.mono ?_; rintro e w5 ⟨A5, n5, c5, h5, rfl, hn5, hs5, ho5, hb5⟩; have HN5 := Lib.hid hn5; have HS5 := Lib.hid hs5; have HB5 := Lib.hid hb5; clear hdl hs5 ho5 hb5 hn5)
    | fail)
  have dD5 : w5.cell? ⟨D, 0, none⟩ = some (.slice A3 nw c3) := (HB5.out.cell (p := ⟨D, 0, none⟩) (World.block_lt_of_cell? _ _ HDD.out)).trans HDD.out
  have dC5 : w5.cell? ⟨C, 0, none⟩ = some (.slice A2 ns c2) := (HB5.out.cell (p := ⟨C, 0, none⟩) (World.block_lt_of_cell? _ _ HDC2.out)).trans HDC2.out
  have h25 : Sl w5 3 1 (.slice A2 ns c2) h2 (rise bs).length ((rise bs).map encI) := HSB2.out.keep (fun b2 hb2 => HB5.out.block b2 (HSB2.out.lt b2 hb2))
  have h35 : Sl w5 3 1 (.slice A3 nw c3) h3 (ids1 m0.p.members).length ((ids1 m0.p.members).map encI) := HSB3.out.keep (fun b2 hb2 => HB5.out.block b2 (HSB3.out.lt b2 hb2))
  have hcl2 := cloneI_any w5 (.slice A3 nw c3) (ids1 m0.p.members) [] (h35.reads [] (by simp)) (by rw [HNW.out]; exact hnwb)
  rw [HNW.out] at hcl2
  have HDC5 := Lib.hid dC5
  have H25 := Lib.hid h25
  clear dC5 h25 h35
  go_upto_region 14 with (first
    | (go_at_call 82; refine hcl2.mono ?_; rintro e w6 ⟨v6, h6, rfl, hs6, hb6, ho6⟩; have hdl2 := delBy (w0 := w5) (w4 := w6) (v4 := v6) (h4 := h6) (l := ids1 m0.p.members) (k := rise bs) 85 (enters_of Tryz.func85 (by kernel_rfl) rfl) (fun y W hB hr hn => inPred2_any y C _ _ W hB hr hn) HDC5.out H25.out (by rw [HNS.out]; exact hrl) (by rw [HNW.out]; exact hs6) (by rw [HNW.out]; exact hnwb) hb6 ho6; rw [HLF.out] at hdl2; clear hcl2 hs6 ho6 hb6)
    | (go_at_call 81; refine hdl2.mono ?_; rintro e w7 ⟨A7, n7, c7, h7, rfl, hn7, hs7, ho7, hb7⟩; have HN7 := Lib.hid hn7; have HB7 := Lib.hid hb7; clear hdl2 hs7 ho7 hb7 hn7)
    | fail)
  obtain ⟨w8, hw8⟩ : ∃ w8 : World, w8 = w7.alloc (.cells #[.slice A7 n7 c7] 32) := ⟨_, rfl⟩
  rw [← hw8]
  obtain ⟨D7, hD7⟩ : ∃ D7, D7 = w7.heap.size := ⟨_, rfl⟩
  rw [← hD7]
  have d7 : w8.cell? ⟨D7, 0, none⟩ = some (.slice A7 n7 c7) := by rw [hw8, hD7]; exact (Blk.new w7 32 #[.slice A7 n7 c7]).cell 0
  have hb8 : Below w.heap.size w w8 := by rw [hw8]; exact below_then (below_then HBB.out HB5.out) (below_then HB7.out (below_alloc1 _ _))
  have hs8 : Sl w8 3 1 (.slice A5 n5 c5) h5 n5 (fr.map encI) := by
    rw [hw8]
    exact (HS5.out.keep (fun b2 hb2 => HB7.out.block b2 (HS5.out.lt b2 hb2))).alloc _
  have HB8 := Lib.hid hb8
  have HS8 := Lib.hid hs8
  obtain ⟨nt, hnt, hntp⟩ : ∃ nt : Nat, (n5 : Int) + (n7 : Int) = (nt : Int) ∧ 0 < nt := ⟨n5 + n7, by omega, by have := HN5.out; have := HN7.out; have := HSOME.out; omega⟩
  have hn5b : n5 ≤ 1099511627776 := by have := HN5.out; have := HFRL.out; have := HNS.out; omega
  have hn7b : n7 ≤ 1099511627776 := by have := HN7.out; have := HLFL.out; have := HNW.out; simp only [ids1, List.length_map] at this; omega
  have hntb : nt ≤ 2199023255552 := by omega
  have hqt : ((nt : Int) == 0) = false := by simp; omega
  have c9 := (H.out.later hb8).cell9
  have c6 : w8.cell? ⟨g, 6, none⟩ = some (.int .i64 x.cfg.maxMod) := (H.out.later hb8).cells 6
  clear hw8 hD7 hb8 hs8
  go_wp2_with (first
    | (go_at_call 53; refine (ends_any g x.clock x.cfg.maxMod _ ((cell_heap (w := w8) (by rfl) _).trans c9) ((cell_heap (w := w8) (by rfl) _).trans c6)).mono ?_; rintro e w9 ⟨rfl, ne, rfl⟩)
    | fail)
  go_ret
  exact ⟨rfl, below_then HB8.out (below_drewN' (Below.refl _ _) _)⟩

set_option maxRecDepth 100000 in
set_option maxHeartbeats 4000000 in
theorem place_spent (w : World) (g : Nat) (q : Lies) (x : Acc) (id : Int) (bs : List Int) (vb : Value) (Sb : List Nat) (h : StoreAt w g q x) (hf : Fit x) (hr : RdS w Sb 1 vb bs.length (bs.map encI)) (hbl : bs.length ≤ 1099511627776) (hne : bs ≠ []) (i : Nat) (hi : i < q.ms.length) (hpl : place (fun m : MailM => decide (m.p.id = id)) q.ms = (i : Int))
    (hw : ((rise bs).any fun id => !hasBox x.boxes id) = false) (m0 : MailM) (hm0 : q.ms[i] = m0) (fr lf : List Int) (hfr : ((rise bs).filter fun b => !decide (b ∈ ids1 m0.p.members)) = fr) (hlf : ((ids1 m0.p.members).filter fun b => !decide (b ∈ rise bs)) = lf) (hsome : 0 < fr.length + lf.length) (hen : ¬ x.cfg.maxMod ≤ x.clock) (hsp : fr.any x.spent = true) :
    Calls Tryz.prog 31 #[.pointer (some ⟨g, 0, none⟩), .int .i64 id, vb] w fun e w' => e = .returned (.int .i64 11) ∧ Below w.heap.size w w' := by
  have H := Lib.hid h
  have hin : ∀ j ∈ fr, j ∈ ids x.boxes := fun j hj => by
    rw [← hfr] at hj
    have h1 := (List.mem_filter.1 hj).1
    have h2 := List.any_eq_false.1 hw j h1
    exact (hasBox_iff x.boxes j).1 (by simpa using h2)
  have HIN := Lib.hid hin
  have hfrl : fr.length ≤ (rise bs).length := by rw [← hfr]; exact List.length_filter_le _ _
  have hlfl : lf.length ≤ m0.p.members.length := by rw [← hlf]; exact Nat.le_trans (List.length_filter_le _ _) (by simp [ids1])
  obtain ⟨Ab, cb, hvb, _, _⟩ := hr.form
  subst hvb
  obtain ⟨nb, hnb⟩ : ∃ nb, bs.length = nb := ⟨_, rfl⟩
  have hnbp : 0 < nb := by
    rw [← hnb]
    exact List.length_pos_iff.2 hne
  have hil : i < x.mails.length := by rw [← h.msLen]; exact hi
  obtain ⟨b, off, cap, hv, hhm, hnc, hcm, hblt, hat⟩ := h.mailAt i hil hi
  rw [hm0] at hat
  have hp0 := h.parts _ (List.getElem_mem hi)
  rw [hm0] at hp0
  obtain ⟨Ak0, ck0, hkv, _, _⟩ := hp0.keys.form
  obtain ⟨Av0, cv0, hmv, _, _⟩ := hp0.mem.form
  have hmx : m0.p ∈ x.mails := by rw [← h.same, ← hm0]; exact List.mem_map_of_mem (List.getElem_mem hi)
  have hnme := hf.nmem hmx
  have hmc := h.mc hf id
  rw [hpl] at hmc
  have hi3 : ¬ (i : Int) < 0 := by omega
  have hi2 : (0 : Int) ≤ (i : Int) := by omega
  obtain ⟨n, hnn⟩ : ∃ n, x.mails.length = n := ⟨_, rfl⟩
  rw [hnn] at hv
  have hi1 : (i : Int) < (n : Int) := by omega
  have hbn : x.boxes.length ≤ 1099511627776 := by have := hf.nb; have := hf.clock; have := hf.cfg.mod; omega
  have hrl : (rise bs).length ≤ 1099511627776 := Nat.le_trans (rise_length _) hbl
  have hwa := fun W (hb : Below w.heap.size w W) => wanted_any W g q x (h.later hb) hbn bs _ Sb (hr.below hb) hbl
  rw [hw] at hwa
  have hq0 : ((nb : Int) == 0) = false := by simp; omega
  have hcs : ∀ W, Below w.heap.size w W → W.cell? ⟨g, 11, none⟩ = some (.slice (some ⟨b, off, none⟩) n cap) ∧ ∀ j, j < 8 → W.cell? ⟨b, off + i * 8 + j, none⟩ = (encM m0)[j]? := fun W hb => ⟨by rw [(h.later hb).cell11, hv], fun j hj => (hb.cell hblt).trans (hat j hj).1⟩
  have hme : ∀ W, Below w.heap.size w W → RdS W [] 2 m0.mv m0.p.members.length (flatG encMem m0.p.members) := fun W hb => (hp0.mem.below hb).sub (fun _ _ _ hm => by cases hm)
  rw [hnb] at hwa
  rw [hnb]
  obtain ⟨ns, hns⟩ : ∃ ns, (rise bs).length = ns := ⟨_, rfl⟩
  rw [hns] at hwa hrl
  have HWA := Lib.hid hwa
  have HCS := Lib.hid hcs
  have HME := Lib.hid hme
  have HKV := Lib.hid hkv
  have HMV := Lib.hid hmv
  have HFR := Lib.hid hfr
  have HLF := Lib.hid hlf
  have HNS := Lib.hid hns
  have HFRL := Lib.hid hfrl
  have HLFL := Lib.hid hlfl
  have HSOME := Lib.hid hsome
  clear hin hwa hcs hme hkv hmv hfr hlf hns hpl hw hr hv hat hp0 hm0 hmx h hf hne hnb hnn hhm hfrl hlfl hsome
  go_enter Tryz.func31, Tryz.ntmps31
  go_upto_region 11 with (first
    | (go_at_call 63; refine hmc.mono ?_; rintro e w1 ⟨rfl, hb1⟩; have hwc := HWA.out w1 hb1; have HB1 := Lib.hid hb1; clear hmc hb1)
    | (go_at_call 52; refine hwc.mono ?_; rintro e w2 ⟨v2, h2, rfl, hs2, ho2, hb2⟩; obtain ⟨A2, c2, rfl, _, _⟩ := hs2.form; have HS2 := Lib.hid hs2; have HO2 := Lib.hid ho2; have HB2 := Lib.hid (below_then HB1.out hb2); clear hwc hs2 ho2 hb2)
    | fail)
  obtain ⟨wa, hwa⟩ : ∃ wa : World, wa = w2.alloc (.cells #[.slice A2 ns c2] 32) := ⟨_, rfl⟩
  rw [← hwa]
  obtain ⟨C, hC⟩ : ∃ C, C = w2.heap.size := ⟨_, rfl⟩
  rw [← hC]
  have dC : wa.cell? ⟨C, 0, none⟩ = some (.slice A2 ns c2) := by rw [hwa, hC]; exact (Blk.new w2 32 #[.slice A2 ns c2]).cell 0
  have hba : Below w.heap.size w wa := by rw [hwa]; exact below_then HB2.out (below_alloc1 _ _)
  have hsa : Sl wa 3 1 (.slice A2 ns c2) h2 ns ((rise bs).map encI) := by rw [hwa]; exact HS2.out.alloc _
  obtain ⟨k11, hat⟩ := HCS.out wa hba
  have b0 : wa.cell? ⟨b, off + i * 8, none⟩ = some (.int .i64 m0.p.id) := hat 0 (by omega)
  have b1 : wa.cell? ⟨b, off + i * 8 + 1, none⟩ = some (.int .i64 m0.p.thread) := hat 1 (by omega)
  have b2 : wa.cell? ⟨b, off + i * 8 + 2, none⟩ = some (.string ⟨m0.p.text.toArray⟩) := hat 2 (by omega)
  have b3 : wa.cell? ⟨b, off + i * 8 + 3, none⟩ = some (.int .i64 m0.p.at_) := hat 3 (by omega)
  have b4 : wa.cell? ⟨b, off + i * 8 + 4, none⟩ = some (.slice Ak0 m0.p.keys.length ck0) := (hat 4 (by omega)).trans (by rw [← HKV.out]; rfl)
  have b5 : wa.cell? ⟨b, off + i * 8 + 5, none⟩ = some (.slice Av0 m0.p.members.length cv0) := (hat 5 (by omega)).trans (by rw [← HMV.out]; rfl)
  have b6 : wa.cell? ⟨b, off + i * 8 + 6, none⟩ = some (.int .i64 m0.p.mod) := hat 6 (by omega)
  have b7 : wa.cell? ⟨b, off + i * 8 + 7, none⟩ = some (.int .i64 m0.p.born) := hat 7 (by omega)
  have hwi := within_any wa m0.p.id m0.p.thread m0.p.at_ m0.p.mod m0.p.born ⟨m0.p.text.toArray⟩ (.slice Ak0 m0.p.keys.length ck0) (.slice Av0 m0.p.members.length cv0) m0.p.members (by
    have h1 := HME.out wa hba
    rw [HMV.out] at h1
    exact h1) (by omega)
  have HBA := Lib.hid hba
  have HSA := Lib.hid hsa
  have HDC := Lib.hid dC
  clear hat hwa hC hba hsa dC
  go_upto_region 12 with (first
    | (go_at_call 66; refine hwi.mono ?_; rintro e w3 ⟨v3, h3, rfl, hs3, ho3, hb3⟩; obtain ⟨A3, c3, rfl, _, _⟩ := hs3.form; have HS3 := Lib.hid hs3; have HO3 := Lib.hid ho3; have HB3 := Lib.hid hb3; clear hwi hs3 ho3 hb3)
    | fail)
  clear b0 b1 b2 b3 b4 b5 b6 b7 k11
  obtain ⟨nw, hnw⟩ : ∃ nw, m0.p.members.length = nw := ⟨_, rfl⟩
  have HNW : Hid ((ids1 m0.p.members).length = nw) := Lib.hid (by rw [← hnw]; simp [ids1])
  obtain ⟨wb, hwb⟩ : ∃ wb : World, wb = w3.alloc (.cells #[.slice A3 m0.p.members.length c3] 32) := ⟨_, rfl⟩
  rw [← hwb]
  obtain ⟨D, hD⟩ : ∃ D, D = w3.heap.size := ⟨_, rfl⟩
  rw [← hD]
  have hbb : Below wa.heap.size wa wb := by rw [hwb]; exact below_then HB3.out (below_alloc1 _ _)
  have dD : wb.cell? ⟨D, 0, none⟩ = some (.slice A3 nw c3) := by rw [hwb, hD, ← hnw]; exact (Blk.new w3 32 #[.slice A3 m0.p.members.length c3]).cell 0
  have dC : wb.cell? ⟨C, 0, none⟩ = some (.slice A2 ns c2) := (hbb.cell (p := ⟨C, 0, none⟩) (World.block_lt_of_cell? _ _ HDC.out)).trans HDC.out
  have hsb2 : Sl wb 3 1 (.slice A2 ns c2) h2 (rise bs).length ((rise bs).map encI) := by rw [HNS.out]; exact HSA.out.keep (fun b2 hb2 => hbb.block b2 (HSA.out.lt b2 hb2))
  have hsb3 : Sl wb 3 1 (.slice A3 nw c3) h3 (ids1 m0.p.members).length ((ids1 m0.p.members).map encI) := by
    rw [HNW.out, hwb, ← hnw]
    exact HS3.out.alloc _
  have hcl := cloneI_any wb (.slice A2 ns c2) (rise bs) [] (hsb2.reads [] (by simp)) (by rw [HNS.out]; exact hrl)
  rw [HNS.out] at hcl
  have hnwb : nw ≤ 1099511627776 := by omega
  have HBB := Lib.hid (below_then HBA.out hbb)
  have HSB2 := Lib.hid hsb2
  have HSB3 := Lib.hid hsb3
  have HDD := Lib.hid dD
  have HDC2 := Lib.hid dC
  clear hwb hD hbb hsb2 hsb3 dD hnw
  go_upto_region 13 with (first
    | (go_at_call 82; refine hcl.mono ?_; rintro e w4 ⟨v4, h4, rfl, hs4, hb4, ho4⟩; have hdl := delBy (w0 := wb) (w4 := w4) (v4 := v4) (h4 := h4) (l := rise bs) (k := ids1 m0.p.members) 83 (enters_of Tryz.func83 (by kernel_rfl) rfl) (fun y W hB hr hn => inPred1_any y D _ _ W hB hr hn) HDD.out HSB3.out (by rw [HNW.out]; exact hnwb) (by rw [HNS.out]; exact hs4) (by rw [HNS.out]; exact hrl) hb4 ho4; rw [HFR.out] at hdl; clear hcl hs4 ho4 hb4)
    | (go_at_call 81; refine hdl.mono ?_; rintro e w5 ⟨A5, n5, c5, h5, rfl, hn5, hs5, ho5, hb5⟩; have HN5 := Lib.hid hn5; have HS5 := Lib.hid hs5; have HB5 := Lib.hid hb5; clear hdl hs5 ho5 hb5 hn5)
    | fail)
  have dD5 : w5.cell? ⟨D, 0, none⟩ = some (.slice A3 nw c3) := (HB5.out.cell (p := ⟨D, 0, none⟩) (World.block_lt_of_cell? _ _ HDD.out)).trans HDD.out
  have dC5 : w5.cell? ⟨C, 0, none⟩ = some (.slice A2 ns c2) := (HB5.out.cell (p := ⟨C, 0, none⟩) (World.block_lt_of_cell? _ _ HDC2.out)).trans HDC2.out
  have h25 : Sl w5 3 1 (.slice A2 ns c2) h2 (rise bs).length ((rise bs).map encI) := HSB2.out.keep (fun b2 hb2 => HB5.out.block b2 (HSB2.out.lt b2 hb2))
  have h35 : Sl w5 3 1 (.slice A3 nw c3) h3 (ids1 m0.p.members).length ((ids1 m0.p.members).map encI) := HSB3.out.keep (fun b2 hb2 => HB5.out.block b2 (HSB3.out.lt b2 hb2))
  have hcl2 := cloneI_any w5 (.slice A3 nw c3) (ids1 m0.p.members) [] (h35.reads [] (by simp)) (by rw [HNW.out]; exact hnwb)
  rw [HNW.out] at hcl2
  have HDC5 := Lib.hid dC5
  have H25 := Lib.hid h25
  clear dC5 h25 h35
  go_upto_region 14 with (first
    | (go_at_call 82; refine hcl2.mono ?_; rintro e w6 ⟨v6, h6, rfl, hs6, hb6, ho6⟩; have hdl2 := delBy (w0 := w5) (w4 := w6) (v4 := v6) (h4 := h6) (l := ids1 m0.p.members) (k := rise bs) 85 (enters_of Tryz.func85 (by kernel_rfl) rfl) (fun y W hB hr hn => inPred2_any y C _ _ W hB hr hn) HDC5.out H25.out (by rw [HNS.out]; exact hrl) (by rw [HNW.out]; exact hs6) (by rw [HNW.out]; exact hnwb) hb6 ho6; rw [HLF.out] at hdl2; clear hcl2 hs6 ho6 hb6)
    | (go_at_call 81; refine hdl2.mono ?_; rintro e w7 ⟨A7, n7, c7, h7, rfl, hn7, hs7, ho7, hb7⟩; have HN7 := Lib.hid hn7; have HB7 := Lib.hid hb7; clear hdl2 hs7 ho7 hb7 hn7)
    | fail)
  obtain ⟨w8, hw8⟩ : ∃ w8 : World, w8 = w7.alloc (.cells #[.slice A7 n7 c7] 32) := ⟨_, rfl⟩
  rw [← hw8]
  obtain ⟨D7, hD7⟩ : ∃ D7, D7 = w7.heap.size := ⟨_, rfl⟩
  rw [← hD7]
  have d7 : w8.cell? ⟨D7, 0, none⟩ = some (.slice A7 n7 c7) := by rw [hw8, hD7]; exact (Blk.new w7 32 #[.slice A7 n7 c7]).cell 0
  have hb8 : Below w.heap.size w w8 := by rw [hw8]; exact below_then (below_then HBB.out HB5.out) (below_then HB7.out (below_alloc1 _ _))
  have hs8 : Sl w8 3 1 (.slice A5 n5 c5) h5 n5 (fr.map encI) := by
    rw [hw8]
    exact (HS5.out.keep (fun b2 hb2 => HB7.out.block b2 (HS5.out.lt b2 hb2))).alloc _
  have HB8 := Lib.hid hb8
  have HS8 := Lib.hid hs8
  obtain ⟨nt, hnt, hntp⟩ : ∃ nt : Nat, (n5 : Int) + (n7 : Int) = (nt : Int) ∧ 0 < nt := ⟨n5 + n7, by omega, by have := HN5.out; have := HN7.out; have := HSOME.out; omega⟩
  have hn5b : n5 ≤ 1099511627776 := by have := HN5.out; have := HFRL.out; have := HNS.out; omega
  have hn7b : n7 ≤ 1099511627776 := by have := HN7.out; have := HLFL.out; have := HNW.out; simp only [ids1, List.length_map] at this; omega
  have hntb : nt ≤ 2199023255552 := by omega
  have hqt : ((nt : Int) == 0) = false := by simp; omega
  have c9 := (H.out.later hb8).cell9
  have c6 : w8.cell? ⟨g, 6, none⟩ = some (.int .i64 x.cfg.maxMod) := (H.out.later hb8).cells 6
  clear hw8 hD7 hb8 hs8
  have hsc : ∀ W, Below w8.heap.size w8 W → Calls Tryz.prog 54 #[.slice A5 n5 c5, .func (.func 55) #[.pointer (some ⟨g, 0, none⟩)] #[]] W fun e w' => e = .returned (.bool (fr.any x.spent)) ∧ Below W.heap.size W w' := fun W hb => by
    have hs9 : Sl W 3 1 (.slice A5 n5 c5) h5 fr.length (fr.map encI) := by
      rw [← HN5.out]
      exact HS8.out.keep (fun b2 hb2 => hb.block b2 (HS8.out.lt b2 hb2))
    exact hasJ_any _ [] fr x.spent _ _ (enters_of Tryz.func55 (by kernel_rfl) rfl) W (hs9.reads [] (by simp)) (by rw [← HN5.out]; exact hn5b) (fun W2 hb2 y hy => (spent_any W2 g q x (H.out.later (below_then (below_then HB8.out hb) hb2)) hbn y (HIN.out y hy)).mono fun e w' ⟨e1, e2⟩ => ⟨e1, below_then hb2 e2⟩)
  rw [hsp] at hsc
  have HSC := Lib.hid hsc
  clear hsc hsp
  go_wp2_with (first
    | (go_at_call 53; refine (ends_any g x.clock x.cfg.maxMod _ ((cell_heap (w := w8) (by rfl) _).trans c9) ((cell_heap (w := w8) (by rfl) _).trans c6)).mono ?_; rintro e w9 ⟨rfl, ne, rfl⟩)
    | (go_at_call 54; refine (HSC.out _ (below_drewN' (Below.refl _ _) _)).mono ?_; rintro e w10 ⟨rfl, hb10⟩; have HB10 := Lib.hid hb10; clear hb10)
    | fail)
  go_ret
  exact ⟨rfl, below_then HB8.out (below_then (below_drewN' (Below.refl w8.heap.size w8) _) HB10.out)⟩

end Go.Proofs.YtmbibhphpjmboaaGreatDoor
