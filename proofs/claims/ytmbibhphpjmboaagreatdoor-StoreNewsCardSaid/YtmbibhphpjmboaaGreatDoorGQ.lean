/-
  The library's DeleteFunc over a slice of numbers of the call's own, with whatever closure.
  The store's Place where the mailboxes stay the same: nothing turns.
  The reference's comparison of two lists of mailboxes: two that are the same.
-/
import Derived.Test.YtmbibhphpjmboaaGreatDoorGD
import Derived.Test.YtmbibhphpjmboaaGreatDoorGF
import Derived.Test.YtmbibhphpjmboaaGreatDoorGK
import Derived.Lib.SliceRun
import Derived.Deep.QuietTactic
import Derived.BigQuiet
namespace Go.Proofs.YtmbibhphpjmboaaGreatDoor
open Go.Shelf Go.RowKit Go.Lib
attribute [local go_sem ↓] Go.wp_at_zero Go.wp_at_succ

theorem place_split {α : Type} (p : α → Bool) : ∀ (l : List α), (l.any p = false ∧ place p l = -1) ∨ ∃ a x r, l = a ++ x :: r ∧ p x = true ∧ (∀ y ∈ a, p y = false) ∧ place p l = (a.length : Int)
  | [] => .inl ⟨rfl, rfl⟩
  | y :: r => by
    by_cases hy : p y = true
    · exact .inr ⟨[], y, r, rfl, hy, fun z hz => (by simp at hz), by simp [place, hy]⟩
    · have hy' : p y = false := by simpa using hy
      rcases place_split p r with ⟨h1, h2⟩ | ⟨a, x, r', h1, h2, h3, h4⟩
      · exact .inl ⟨by simp [hy', h1], by simp [place, hy', h2]⟩
      · refine .inr ⟨y :: a, x, r', by rw [h1]; rfl, h2, fun z hz => ?_, ?_⟩
        · rcases List.mem_cons.1 hz with rfl | hz
          · exact hy'
          · exact h3 z hz
        · have h5 : ¬ (a.length : Int) = -1 := by omega
          simp [place, hy', h4]
          omega

structure DelRel (w wr : World) (v : Value) (hh : Option Nat) (l : List Int) (p : Int → Bool) (j i : Nat) (cur : List Int) : Prop where
  sl : Sl wr 3 1 v hh l.length (cur.map encI)
  len : cur.length = l.length
  i_ : i = ((l.take j).filter (fun x => !p x)).length
  lt : i < j
  done : cur.take i = (l.take j).filter (fun x => !p x)
  rest : cur.drop j = l.drop j
  chg : Chg hh.toList w wr
theorem DelRel.skip {w wr wr' : World} {v : Value} {hh : Option Nat} {l : List Int} {p : Int → Bool} {j i : Nat} {cur : List Int} (h : DelRel w wr v hh l p j i cur) (hj : j < l.length) (hp : p l[j] = true) (hb : Below wr.heap.size wr wr') : DelRel w wr' v hh l p (j + 1) i cur := by
  have h1 : (l.take (j + 1)).filter (fun x => !p x) = (l.take j).filter (fun x => !p x) := by
    rw [List.take_succ_eq_append_getElem hj, List.filter_append]
    simp [hp]
  refine ⟨h.sl.keep (fun b hb2 => hb.block b (h.sl.lt b hb2)), h.len, by rw [h1]; exact h.i_, by have := h.lt; omega, by rw [h1]; exact h.done, ?_, h.chg.trans (Chg.of_below hb hh.toList) (fun k hk => .inl hk)⟩
  have h2 := congrArg (List.drop 1) h.rest
  simpa [List.drop_drop] using h2
theorem DelRel.keep {w wr wr' : World} {b off n cap : Nat} {hh : Option Nat} {l : List Int} {p : Int → Bool} {j i : Nat} {cur : List Int} (h : DelRel w wr (.slice (some ⟨b, off, none⟩) n cap) hh l p j i cur) (hhb : hh = some b) (hn : l.length = n) (hj : j < l.length) (hp : p l[j] = false) (hb : Below wr.heap.size wr wr') :
    DelRel w (wr'.setCell ⟨b, off + i, none⟩ (.int .i64 l[j])) (.slice (some ⟨b, off, none⟩) n cap) hh l p (j + 1) (i + 1) (cur.set i l[j]) := by
  have h1 : (l.take (j + 1)).filter (fun x => !p x) = (l.take j).filter (fun x => !p x) ++ [l[j]] := by
    rw [List.take_succ_eq_append_getElem hj, List.filter_append]
    simp [hp]
  have hlt := h.lt
  have hlen := h.len
  subst hn
  refine ⟨?_, by rw [List.length_set]; exact hlen, ?_, by omega, ?_, ?_, ?_⟩
  · have h2 := (h.sl.keep (w' := wr') (fun k hk => hb.block k (h.sl.lt k hk))).store i (.int .i64 l[j])
    rw [List.map_set]
    exact h2
  · rw [h1, List.length_append, ← h.i_]
    rfl
  · rw [h1, ← h.done, List.take_succ_eq_append_getElem (by rw [List.length_set]; omega), List.take_set, List.getElem_set_self]
    congr 1
    rw [List.set_eq_of_length_le (by rw [List.length_take]; omega)]
  · rw [List.drop_set, if_pos (by omega)]
    have h2 := congrArg (List.drop 1) h.rest
    simpa [List.drop_drop] using h2
  · exact (h.chg.trans (Chg.of_below hb hh.toList) (fun k hk => .inl hk)).set (.inl (by rw [hhb]; simp)) _

/-- The slice cut short behind the clear of what lies behind. -/
theorem DelRel.cut {w wr : World} {b off n cap : Nat} {hh : Option Nat} {l : List Int} {p : Int → Bool} {i : Nat} {cur : List Int} (h : DelRel w wr (.slice (some ⟨b, off, none⟩) n cap) hh l p n i cur) (hhb : hh = some b) (hn : l.length = n) :
    Sl (wr.setCells b (off + i) (List.replicate (n - i) (.int .i64 0))) 3 1 (.slice (some ⟨b, off, none⟩) i cap) hh (l.filter fun x => !p x).length ((l.filter fun x => !p x).map encI) ∧ Chg hh.toList w (wr.setCells b (off + i) (List.replicate (n - i) (.int .i64 0))) := by
  subst hn
  have hlt := h.lt
  have hd := h.done
  have hi := h.i_
  rw [List.take_of_length_le (Nat.le_refl _)] at hd hi
  rcases h.sl.2 with ⟨_, hv, _⟩ | ⟨b', off', cap', c, hh', hv, hB, hnc, hcm, hcs, ht⟩
  · cases hv
  simp only [Value.slice.injEq, Option.some.injEq, Addr.mk.injEq, and_true, true_and] at hv
  obtain ⟨⟨rfl, rfl⟩, rfl⟩ := hv
  have hB2 := heap_setCells b 3 (List.replicate (l.length - i) (.int .i64 0)) (off + i) wr c hB (by simp; omega)
  obtain ⟨y1, y2, y3, y4⟩ := setCells_same b (List.replicate (l.length - i) (Value.int .i64 0)) (off + i) wr
  refine ⟨?_, y1.trans h.chg.os, y2.trans h.chg.tape, y3.trans h.chg.output, by rw [y4]; exact h.chg.size, fun k hk hn => (setCells_far b _ _ wr k (fun e => hn (by rw [hhb, e]; simp))).trans (h.chg.block k hk hn)⟩
  rw [← hi]
  refine ⟨by rw [List.length_map, ← hi, Nat.mul_one], .inr ⟨b, off, cap, _, hhb, rfl, hB2, by omega, hcm, ?_, ?_⟩⟩
  · simp only [List.size_toArray, List.length_append, List.length_take, List.length_drop, List.length_replicate, Array.length_toList]
    omega
  · have hl1 : (c.toList.take (off + i)).length = off + i := by
      rw [List.length_take, Array.length_toList]
      omega
    show (List.drop off (c.toList.take (off + i) ++ List.replicate (l.length - i) (.int .i64 0) ++ _)).take (i * 1) = _
    rw [List.append_assoc, List.drop_append_of_le_length (by omega), List.take_append_of_le_length (by rw [List.length_drop, hl1]; omega), List.drop_take, Nat.add_sub_cancel_left, List.take_take, Nat.mul_one, Nat.min_self]
    have h3 : (c.toList.drop off).take i = ((c.toList.drop off).take (l.length * 1)).take i := by
      rw [List.take_take, Nat.min_eq_left (by omega)]
    rw [h3, ht, ← List.map_take, hd]

set_option maxRecDepth 100000 in
set_option maxHeartbeats 4000000 in
theorem delI_any (v : Value) (hh : Option Nat) (l : List Int) (p : Int → Bool) (g : Nat) (lb : Array Value) (eg : ∀ args w, (callFunc g args).run Tryz.prog w = .ok (.enter g args) w) (w : World) (hs : Sl w 3 1 v hh l.length (l.map encI)) (hn : l.length ≤ 1099511627776)
    (hp : ∀ W, Chg hh.toList w W → ∀ x ∈ l, Calls Tryz.prog g (#[.int .i64 x] ++ lb) W fun e w' => e = .returned (.bool (p x)) ∧ Below W.heap.size W w') :
    Calls Tryz.prog 81 #[v, .func (.func g) #[] lb] w fun e w' => ∃ v', e = .returned v' ∧ Sl w' 3 1 v' hh (l.filter fun x => !p x).length ((l.filter fun x => !p x).map encI) ∧ Chg hh.toList w w' := by
  have hix := idxI_any v [] l p g lb eg w (hs.reads [] (by simp)) hn (fun W hb x hx => (hp W (Chg.of_below hb _) x hx).mono fun e w' ⟨h1, h2⟩ => ⟨h1, below_then hb h2⟩)
  rcases place_split p l with ⟨h1, h2⟩ | ⟨a, x, r, h1, h2, h3, h4⟩
  · have hf : (l.filter fun x => !p x) = l := by
      rw [List.filter_eq_self]
      intro x hx
      have := List.any_eq_false.1 h1 x hx
      simpa using this
    rw [hf]
    rw [h2] at hix
    have HS := Lib.hid hs
    clear hp h1 h2 hf hs
    go_enter Tryz.func81, Tryz.ntmps81
    go_wp2_with (first
      | (go_at_call 117; refine hix.mono ?_; rintro e w1 ⟨rfl, hb1⟩; have HB1 := Lib.hid hb1; clear hix hb1)
      | fail)
    go_ret
    exact ⟨_, rfl, HS.out.keep (fun b hb => HB1.out.block b (HS.out.lt b hb)), Chg.of_below HB1.out _⟩
  · rw [h4] at hix
    have hpos : 0 < l.length := by rw [h1, List.length_append, List.length_cons]; omega
    obtain ⟨b, off, cap, hhb, hv, hnc, hcm, hbl, _⟩ := hs.at_ hpos
    subst hv
    obtain ⟨n, hnn⟩ : ∃ n, l.length = n := ⟨_, rfl⟩
    obtain ⟨k, hk⟩ : ∃ k, a.length = k := ⟨_, rfl⟩
    have hkn : k < n := by rw [← hnn, h1, ← hk]; simp
    rw [hk] at hix
    have hfa : a.filter (fun x => !p x) = a := by
      rw [List.filter_eq_self]
      intro y hy
      simp [h3 y hy]
    have hst : DelRel w w (.slice (some ⟨b, off, none⟩) n cap) hh l p (k + 1) k l := by
      have htk : l.take (k + 1) = a ++ [x] := by
        rw [h1, ← hk, List.take_length_add_append]
        rfl
      have htk2 : (l.take (k + 1)).filter (fun x => !p x) = a := by
        rw [htk, List.filter_append, hfa]
        simp [h2]
      refine ⟨by rw [← hnn]; exact hs, rfl, by rw [htk2, hk], by omega, ?_, rfl, Chg.refl _ _⟩
      rw [htk2, h1, ← hk, List.take_left]
    have hkm : ((k : Int) == -1) = false := by first | (simp; done) | (simp; omega)
    have hkw : IntKind.i64.wrap ((k : Int) + 1) = (k : Int) + 1 := IntWalk.i64_in _ (by omega)
    have HS := Lib.hid hs
    have HP := Lib.hid hp
    have HST := Lib.hid hst
    have HNN := Lib.hid hnn
    have HHB := Lib.hid hhb
    rw [hnn] at hn hnc hix
    rw [hnn]
    clear h1 h2 h3 h4 hfa hst hs hp hnn hhb hpos hk
    go_enter Tryz.func81, Tryz.ntmps81
    go_wp2_with (first
      | (go_at_call 117; refine hix.mono ?_; rintro e w1 ⟨rfl, hb1⟩; have HB1 := Lib.hid hb1; clear hix hb1)
      | fail)
    have HR1 : Hid (DelRel w w1 (.slice (some ⟨b, off, none⟩) n cap) hh l p (k + 1) k l) := Lib.hid ⟨HST.out.sl.keep (fun b2 hb2 => HB1.out.block b2 (HST.out.sl.lt b2 hb2)), HST.out.len, HST.out.i_, HST.out.lt, HST.out.done, HST.out.rest, Chg.of_below HB1.out _⟩
    go_loopw [5, 6] (fun si sj wr => ∃ (i j : Nat) (cur : List Int), j ≤ n ∧ i < j ∧ si = .int .i64 i ∧ sj = .int .i64 j ∧ Hid (DelRel w wr (.slice (some ⟨b, off, none⟩) n cap) hh l p j i cur)) (fun _ sj _ => n - (intOf sj).toNat)
    case atStart => exact ⟨k, k + 1, l, by omega, by omega, rfl, by go_num, HR1⟩
    case round =>
      obtain ⟨i, j, cur, hjn, hij, rfl, rfl, HR⟩ := hrel
      by_cases hlt : j < n
      · have hltz : (j : Int) < (n : Int) := by omega
        have hj2 : j < l.length := by rw [HNN.out]; exact hlt
        obtain ⟨y, hy⟩ : ∃ y, l[j] = y := ⟨_, rfl⟩
        have hcur : cur[j]? = some y := by
          have h1 := congrArg (fun z => z[0]?) HR.out.rest
          simp only [List.getElem?_drop, Nat.add_zero] at h1
          rw [h1, List.getElem?_eq_getElem hj2, hy]
        obtain ⟨b', off', cap', _, hv', _, _, _, hat⟩ := HR.out.sl.at_ (by rw [HNN.out]; omega)
        have hvi := (Value.slice.inj hv').1
        injection hvi with hvi
        injection hvi with e1 e2
        subst e1 e2
        have cj : wr.cell? ⟨b, off + j, none⟩ = some (.int .i64 y) := (hat j (by omega)).1.trans (by rw [List.getElem?_map, hcur]; rfl)
        obtain ⟨ov, hov⟩ : ∃ ov, wr.cell? ⟨b, off + i, none⟩ = some ov := by
          refine ⟨_, (hat i (by omega)).1.trans (List.getElem?_eq_getElem ?_)⟩
          rw [List.length_map, HR.out.len]
          omega
        have ci := hov
        have fi := (hat i (by omega)).2
        have hpc := HP.out wr HR.out.chg l[j] (List.getElem_mem hj2)
        rw [hy] at hpc
        have hiw : IntKind.i64.wrap ((i : Int) + 1) = (i : Int) + 1 := IntWalk.i64_in _ (by omega)
        have hjw : IntKind.i64.wrap ((j : Int) + 1) = (j : Int) + 1 := IntWalk.i64_in _ (by omega)
        have hi1 : (i : Int) < (n : Int) := by omega
        have HY := Lib.hid hy
        have hbl2 : b < wr.heap.size := World.block_lt_of_cell? _ _ cj
        clear hat hv' hcur hy hov
        cases hq : p y with
        | true =>
          rw [hq] at hpc
          go_wp2_with (go_at_fn g; refine hpc.mono ?_; rintro e w4 ⟨rfl, hb4⟩; have HB4 := Lib.hid hb4; clear hpc hb4)
          have HR2 := Lib.hid (HR.out.skip hj2 (by rw [HY.out]; exact hq) HB4.out)
          refine ⟨?_, by simp [intOf]; omega⟩
          first | exact ⟨i, j + 1, cur, by omega, by omega, rfl, by go_num, HR2⟩ | ((repeat apply Exists.intro); exact ⟨⟨i, j + 1, cur, by omega, by omega, rfl, by go_num, HR2⟩, rfl⟩)
        | false =>
          rw [hq] at hpc
          go_wp2_with (go_at_fn g; refine hpc.mono ?_; rintro e w4 ⟨rfl, hb4⟩; have ci4 := (hb4.cell (p := ⟨b, off + i, none⟩) hbl2).trans ci; have fi4 := (below_frozen hb4 (p := ⟨b, off + i, none⟩) hbl2).trans fi; have HB4 := Lib.hid hb4; clear hpc hb4)
          have HR2 := HR.out.keep HHB.out HNN.out hj2 (by rw [HY.out]; exact hq) HB4.out
          rw [HY.out] at HR2
          have HR3 := Lib.hid HR2
          clear HR2
          refine ⟨?_, by simp [intOf]; omega⟩
          first | exact ⟨i + 1, j + 1, _, by omega, by omega, by go_num, by go_num, HR3⟩ | ((repeat apply Exists.intro); exact ⟨⟨i + 1, j + 1, _, by omega, by omega, by go_num, by go_num, HR3⟩, rfl⟩)
      · have hltz : ¬ (j : Int) < (n : Int) := by omega
        obtain rfl : j = n := by omega
        obtain ⟨hcutS, hcutC⟩ := HR.out.cut HHB.out HNN.out
        have hBlk : ∀ t, t < j - i → (wr.cell? ⟨b, off + i + t, none⟩).isSome = true ∧ wr.frozen? ⟨b, off + i + t, none⟩ = false := fun t ht => by
          obtain ⟨b', off', cap', _, hv', _, _, _, hat⟩ := HR.out.sl.at_ (by rw [HNN.out]; omega)
          have hvi := (Value.slice.inj hv').1
          injection hvi with hvi
          injection hvi with e1 e2
          subst e1 e2
          obtain ⟨z1, z2⟩ := hat (i + t) (by rw [HNN.out]; omega)
          rw [← Nat.add_assoc] at z1 z2
          refine ⟨?_, z2⟩
          rw [z1, List.getElem?_eq_getElem (by rw [List.length_map, HR.out.len, HNN.out]; omega)]
          rfl
        have hcl : ∀ ty, (Builtin.clear_ #[32] ty #[.slice (some ⟨b, off + i, none⟩) (j - i) (cap - i)]).run Tryz.prog wr = .ok (.tuple #[]) (wr.setCells b (off + i) (List.replicate (j - i) (.int .i64 0))) := fun ty =>
          Lib.run_clear_slice wr _ 3 ty (.int .i64 0) Tryz.underlying32 (fun W => by first | rfl | kernel_rfl) rfl (by simp [Value.oneCell']) b (off + i) (j - i) (cap - i) (by omega) (fun t ht => (hBlk t ht).1) (fun t ht => (hBlk t ht).2)
        have HCS := Lib.hid hcutS
        have HCC := Lib.hid hcutC
        have q1 : (0 : Int) ≤ (i : Int) := by omega
        have q2 : (i : Int) ≤ (j : Int) := by omega
        have q3 : (j : Int) ≤ (cap : Int) := by omega
        have q4 : ¬ cap = i := by omega
        have q5 : ((cap : Int) == (i : Int)) = false := by simp; omega
        have q6 : i ≤ cap := by omega
        have q7 : i ≤ j := by omega
        clear hBlk hcutS hcutC
        go_wp2_with fail
        go_ret
        exact ⟨_, rfl, HCS.out, HCC.out⟩

end Go.Proofs.YtmbibhphpjmboaaGreatDoor

namespace Go.Proofs.YtmbibhphpjmboaaGreatDoor
open Go.Shelf Go.RowKit
attribute [local go_sem ↓] Go.wp_at_zero Go.wp_at_succ

theorem containsI_any (v : Value) (S : List Nat) (l : List Int) (x : Int) (w : World) (hr : RdS w S 1 v l.length (l.map encI)) (hn : l.length ≤ 1099511627776) :
    Calls Tryz.prog 84 #[v, .int .i64 x] w fun e w' => e = .returned (.bool (decide (x ∈ l))) ∧ w' = w := by
  rcases Nat.eq_zero_or_pos l.length with h0 | hpos
  · obtain rfl : l = [] := List.eq_nil_of_length_eq_zero h0
    obtain ⟨A, cap, rfl, _, _⟩ := hr.form
    refine (Tryz.slices_Contains_int_empty A cap x w).mono ?_
    rintro e w' ⟨rfl, rfl⟩
    exact ⟨by simp, rfl⟩
  · obtain ⟨b, off, cap, rfl, _, _, hlt, _, hat⟩ := hr.at_ hpos
    refine (Tryz.slices_Contains_int b off l.length cap l x w (Nat.le_refl _) (by omega) (fun j hj => ?_)).mono ?_
    · rw [hat j (by omega), List.getElem?_map, List.getElem?_eq_getElem hj]
      simp [encI, List.getD, hj]
    · rintro e w' ⟨rfl, rfl⟩
      refine ⟨?_, rfl⟩
      rw [List.take_of_length_le (Nat.le_refl _)]
      simp
theorem inPred1_any (x : Int) (B : Nat) (v : Value) (l : List Int) (W : World) (hB : W.cell? ⟨B, 0, none⟩ = some v) (hr : RdS W [] 1 v l.length (l.map encI)) (hn : l.length ≤ 1099511627776) :
    Calls Tryz.prog 83 (#[.int .i64 x] ++ #[.pointer (some ⟨B, 0, none⟩)]) W fun e w' => e = .returned (.bool (decide (x ∈ l))) ∧ Below W.heap.size W w' := by
  have hc := containsI_any v [] l x W hr hn
  show Calls Tryz.prog 83 #[.int .i64 x, .pointer (some ⟨B, 0, none⟩)] W _
  clear hr
  generalize decide (x ∈ l) = r at hc ⊢
  go_enter Tryz.func83, Tryz.ntmps83
  go_wp2_with (first
    | (go_at_call 84; refine hc.mono ?_; rintro e w2 ⟨rfl, rfl⟩)
    | fail)
  go_ret
  exact ⟨rfl, Below.refl _ _⟩
theorem inPred2_any (x : Int) (B : Nat) (v : Value) (l : List Int) (W : World) (hB : W.cell? ⟨B, 0, none⟩ = some v) (hr : RdS W [] 1 v l.length (l.map encI)) (hn : l.length ≤ 1099511627776) :
    Calls Tryz.prog 85 (#[.int .i64 x] ++ #[.pointer (some ⟨B, 0, none⟩)]) W fun e w' => e = .returned (.bool (decide (x ∈ l))) ∧ Below W.heap.size W w' := by
  have hc := containsI_any v [] l x W hr hn
  show Calls Tryz.prog 85 #[.int .i64 x, .pointer (some ⟨B, 0, none⟩)] W _
  clear hr
  generalize decide (x ∈ l) = r at hc ⊢
  go_enter Tryz.func85, Tryz.ntmps85
  go_wp2_with (first
    | (go_at_call 84; refine hc.mono ?_; rintro e w2 ⟨rfl, rfl⟩)
    | fail)
  go_ret
  exact ⟨rfl, Below.refl _ _⟩

/-- A clone of l without what lies in k, whose slice lies in the box B. -/
theorem delBy {w0 w4 : World} {v4 vk : Value} {h4 hk : Option Nat} {l k : List Int} {B : Nat} (fn : Nat) (eg : ∀ args w, (callFunc fn args).run Tryz.prog w = .ok (.enter fn args) w)
    (hpred : ∀ (x : Int) (W : World), W.cell? ⟨B, 0, none⟩ = some vk → RdS W [] 1 vk k.length (k.map encI) → k.length ≤ 1099511627776 → Calls Tryz.prog fn (#[.int .i64 x] ++ #[.pointer (some ⟨B, 0, none⟩)]) W fun e w' => e = .returned (.bool (decide (x ∈ k))) ∧ Below W.heap.size W w')
    (hcell : w0.cell? ⟨B, 0, none⟩ = some vk) (hsk : Sl w0 3 1 vk hk k.length (k.map encI)) (hkn : k.length ≤ 1099511627776) (hs4 : Sl w4 3 1 v4 h4 l.length (l.map encI)) (hln : l.length ≤ 1099511627776) (hb4 : Below w0.heap.size w0 w4) (ho4 : ∀ b, h4 = some b → w0.heap.size ≤ b) :
    Calls Tryz.prog 81 #[v4, .func (.func fn) #[] #[.pointer (some ⟨B, 0, none⟩)]] w4 fun e w' => ∃ A5 n5 c5 h5, e = .returned (.slice A5 n5 c5) ∧ n5 = (l.filter fun x => !decide (x ∈ k)).length ∧ Sl w' 3 1 (.slice A5 n5 c5) h5 n5 ((l.filter fun x => !decide (x ∈ k)).map encI) ∧ (∀ b, h5 = some b → w0.heap.size ≤ b) ∧ Below w0.heap.size w0 w' := by
  have hBl := World.block_lt_of_cell? _ _ hcell
  refine (delI_any v4 h4 l (fun x => decide (x ∈ k)) fn _ eg w4 hs4 hln (fun W hc x _ => ?_)).mono ?_
  · have hb : Below w0.heap.size w0 W := hb4.trans (hc.below hb4.size (fun b hb => ho4 b (by simpa using hb)))
    exact hpred x W ((hb.cell (p := ⟨B, 0, none⟩) hBl).trans hcell) ((hsk.keep (fun b hb2 => hb.block b (hsk.lt b hb2))).reads [] (by simp)) hkn
  · rintro e w' ⟨v', rfl, hs, hc⟩
    obtain ⟨A5, c5, rfl, _, _⟩ := hs.form
    exact ⟨A5, _, c5, h4, rfl, rfl, hs, ho4, hb4.trans (hc.below hb4.size (fun b hb => ho4 b (by simpa using hb)))⟩

set_option maxRecDepth 100000 in
set_option maxHeartbeats 4000000 in
theorem place_same (w : World) (g : Nat) (q : Lies) (x : Acc) (id : Int) (bs : List Int) (vb : Value) (Sb : List Nat) (h : StoreAt w g q x) (hf : Fit x) (hr : RdS w Sb 1 vb bs.length (bs.map encI)) (hbl : bs.length ≤ 1099511627776) (hne : bs ≠ []) (i : Nat) (hi : i < q.ms.length) (hpl : place (fun m : MailM => decide (m.p.id = id)) q.ms = (i : Int))
    (hw : ((rise bs).any fun id => !hasBox x.boxes id) = false) (m0 : MailM) (hm0 : q.ms[i] = m0) (hfr : ((rise bs).filter fun b => !decide (b ∈ ids1 m0.p.members)) = []) (hlf : ((ids1 m0.p.members).filter fun b => !decide (b ∈ rise bs)) = []) :
    Calls Tryz.prog 31 #[.pointer (some ⟨g, 0, none⟩), .int .i64 id, vb] w fun e w' => e = .returned (.int .i64 0) ∧ Below w.heap.size w w' := by
  obtain ⟨Ab, cb, hvb, _, _⟩ := hr.form
  subst hvb
  obtain ⟨nb, hnb⟩ : ∃ nb, bs.length = nb := ⟨_, rfl⟩
  have hnbp : 0 < nb := by
    rw [← hnb]
    exact List.length_pos_iff.2 hne
  have hil : i < x.mails.length := by rw [← h.msLen]; exact hi
  obtain ⟨b, off, cap, hv, hhm, hnc, hcm, hblt, hat⟩ := h.mailAt i hil hi
  rw [hm0] at hat
  have hp0 := h.parts _ (List.getElem_mem hi)
  rw [hm0] at hp0
  obtain ⟨Ak0, ck0, hkv, _, _⟩ := hp0.keys.form
  obtain ⟨Av0, cv0, hmv, _, _⟩ := hp0.mem.form
  have hmx : m0.p ∈ x.mails := by rw [← h.same, ← hm0]; exact List.mem_map_of_mem (List.getElem_mem hi)
  have hnme := hf.nmem hmx
  have hmc := h.mc hf id
  rw [hpl] at hmc
  have hi3 : ¬ (i : Int) < 0 := by omega
  have hi2 : (0 : Int) ≤ (i : Int) := by omega
  obtain ⟨n, hnn⟩ : ∃ n, x.mails.length = n := ⟨_, rfl⟩
  rw [hnn] at hv
  have hi1 : (i : Int) < (n : Int) := by omega
  have hbn : x.boxes.length ≤ 1099511627776 := by have := hf.nb; have := hf.clock; have := hf.cfg.mod; omega
  have hrl : (rise bs).length ≤ 1099511627776 := Nat.le_trans (rise_length _) hbl
  have hwa := fun W (hb : Below w.heap.size w W) => wanted_any W g q x (h.later hb) hbn bs _ Sb (hr.below hb) hbl
  rw [hw] at hwa
  have hq0 : ((nb : Int) == 0) = false := by simp; omega
  have hcs : ∀ W, Below w.heap.size w W → W.cell? ⟨g, 11, none⟩ = some (.slice (some ⟨b, off, none⟩) n cap) ∧ ∀ j, j < 8 → W.cell? ⟨b, off + i * 8 + j, none⟩ = (encM m0)[j]? := fun W hb => ⟨by rw [(h.later hb).cell11, hv], fun j hj => (hb.cell hblt).trans (hat j hj).1⟩
  have hme : ∀ W, Below w.heap.size w W → RdS W [] 2 m0.mv m0.p.members.length (flatG encMem m0.p.members) := fun W hb => (hp0.mem.below hb).sub (fun _ _ _ hm => by cases hm)
  rw [hnb] at hwa
  rw [hnb]
  obtain ⟨ns, hns⟩ : ∃ ns, (rise bs).length = ns := ⟨_, rfl⟩
  rw [hns] at hwa hrl
  have HWA := Lib.hid hwa
  have HCS := Lib.hid hcs
  have HME := Lib.hid hme
  have HKV := Lib.hid hkv
  have HMV := Lib.hid hmv
  have HFR := Lib.hid hfr
  have HLF := Lib.hid hlf
  have HNS := Lib.hid hns
  clear hwa hcs hme hkv hmv hfr hlf hns hpl hw hr hv hat hp0 hm0 hmx h hf hne hnb hnn hhm
  go_enter Tryz.func31, Tryz.ntmps31
  go_upto_region 11 with (first
    | (go_at_call 63; refine hmc.mono ?_; rintro e w1 ⟨rfl, hb1⟩; have hwc := HWA.out w1 hb1; have HB1 := Lib.hid hb1; clear hmc hb1)
    | (go_at_call 52; refine hwc.mono ?_; rintro e w2 ⟨v2, h2, rfl, hs2, ho2, hb2⟩; obtain ⟨A2, c2, rfl, _, _⟩ := hs2.form; have HS2 := Lib.hid hs2; have HO2 := Lib.hid ho2; have HB2 := Lib.hid (below_then HB1.out hb2); clear hwc hs2 ho2 hb2)
    | fail)
  obtain ⟨wa, hwa⟩ : ∃ wa : World, wa = w2.alloc (.cells #[.slice A2 ns c2] 32) := ⟨_, rfl⟩
  rw [← hwa]
  obtain ⟨C, hC⟩ : ∃ C, C = w2.heap.size := ⟨_, rfl⟩
  rw [← hC]
  have dC : wa.cell? ⟨C, 0, none⟩ = some (.slice A2 ns c2) := by rw [hwa, hC]; exact (Blk.new w2 32 #[.slice A2 ns c2]).cell 0
  have hba : Below w.heap.size w wa := by rw [hwa]; exact below_then HB2.out (below_alloc1 _ _)
  have hsa : Sl wa 3 1 (.slice A2 ns c2) h2 ns ((rise bs).map encI) := by rw [hwa]; exact HS2.out.alloc _
  obtain ⟨k11, hat⟩ := HCS.out wa hba
  have b0 : wa.cell? ⟨b, off + i * 8, none⟩ = some (.int .i64 m0.p.id) := hat 0 (by omega)
  have b1 : wa.cell? ⟨b, off + i * 8 + 1, none⟩ = some (.int .i64 m0.p.thread) := hat 1 (by omega)
  have b2 : wa.cell? ⟨b, off + i * 8 + 2, none⟩ = some (.string ⟨m0.p.text.toArray⟩) := hat 2 (by omega)
  have b3 : wa.cell? ⟨b, off + i * 8 + 3, none⟩ = some (.int .i64 m0.p.at_) := hat 3 (by omega)
  have b4 : wa.cell? ⟨b, off + i * 8 + 4, none⟩ = some (.slice Ak0 m0.p.keys.length ck0) := (hat 4 (by omega)).trans (by rw [← HKV.out]; rfl)
  have b5 : wa.cell? ⟨b, off + i * 8 + 5, none⟩ = some (.slice Av0 m0.p.members.length cv0) := (hat 5 (by omega)).trans (by rw [← HMV.out]; rfl)
  have b6 : wa.cell? ⟨b, off + i * 8 + 6, none⟩ = some (.int .i64 m0.p.mod) := hat 6 (by omega)
  have b7 : wa.cell? ⟨b, off + i * 8 + 7, none⟩ = some (.int .i64 m0.p.born) := hat 7 (by omega)
  have hwi := within_any wa m0.p.id m0.p.thread m0.p.at_ m0.p.mod m0.p.born ⟨m0.p.text.toArray⟩ (.slice Ak0 m0.p.keys.length ck0) (.slice Av0 m0.p.members.length cv0) m0.p.members (by
    have h1 := HME.out wa hba
    rw [HMV.out] at h1
    exact h1) (by omega)
  have HBA := Lib.hid hba
  have HSA := Lib.hid hsa
  have HDC := Lib.hid dC
  clear hat hwa hC hba hsa dC
  go_upto_region 12 with (first
    | (go_at_call 66; refine hwi.mono ?_; rintro e w3 ⟨v3, h3, rfl, hs3, ho3, hb3⟩; obtain ⟨A3, c3, rfl, _, _⟩ := hs3.form; have HS3 := Lib.hid hs3; have HO3 := Lib.hid ho3; have HB3 := Lib.hid hb3; clear hwi hs3 ho3 hb3)
    | fail)
  clear b0 b1 b2 b3 b4 b5 b6 b7 k11
  obtain ⟨nw, hnw⟩ : ∃ nw, m0.p.members.length = nw := ⟨_, rfl⟩
  have HNW : Hid ((ids1 m0.p.members).length = nw) := Lib.hid (by rw [← hnw]; simp [ids1])
  obtain ⟨wb, hwb⟩ : ∃ wb : World, wb = w3.alloc (.cells #[.slice A3 m0.p.members.length c3] 32) := ⟨_, rfl⟩
  rw [← hwb]
  obtain ⟨D, hD⟩ : ∃ D, D = w3.heap.size := ⟨_, rfl⟩
  rw [← hD]
  have hbb : Below wa.heap.size wa wb := by rw [hwb]; exact below_then HB3.out (below_alloc1 _ _)
  have dD : wb.cell? ⟨D, 0, none⟩ = some (.slice A3 nw c3) := by rw [hwb, hD, ← hnw]; exact (Blk.new w3 32 #[.slice A3 m0.p.members.length c3]).cell 0
  have dC : wb.cell? ⟨C, 0, none⟩ = some (.slice A2 ns c2) := (hbb.cell (p := ⟨C, 0, none⟩) (World.block_lt_of_cell? _ _ HDC.out)).trans HDC.out
  have hsb2 : Sl wb 3 1 (.slice A2 ns c2) h2 (rise bs).length ((rise bs).map encI) := by rw [HNS.out]; exact HSA.out.keep (fun b2 hb2 => hbb.block b2 (HSA.out.lt b2 hb2))
  have hsb3 : Sl wb 3 1 (.slice A3 nw c3) h3 (ids1 m0.p.members).length ((ids1 m0.p.members).map encI) := by
    rw [HNW.out, hwb, ← hnw]
    exact HS3.out.alloc _
  have hcl := cloneI_any wb (.slice A2 ns c2) (rise bs) [] (hsb2.reads [] (by simp)) (by rw [HNS.out]; exact hrl)
  rw [HNS.out] at hcl
  have hnwb : nw ≤ 1099511627776 := by omega
  have HBB := Lib.hid (below_then HBA.out hbb)
  have HSB2 := Lib.hid hsb2
  have HSB3 := Lib.hid hsb3
  have HDD := Lib.hid dD
  have HDC2 := Lib.hid dC
  clear hwb hD hbb hsb2 hsb3 dD hnw
  go_upto_region 13 with (first
    | (go_at_call 82; refine hcl.mono ?_; rintro e w4 ⟨v4, h4, rfl, hs4, hb4, ho4⟩; have hdl := delBy (w0 := wb) (w4 := w4) (v4 := v4) (h4 := h4) (l := rise bs) (k := ids1 m0.p.members) 83 (enters_of Tryz.func83 (by kernel_rfl) rfl) (fun y W hB hr hn => inPred1_any y D _ _ W hB hr hn) HDD.out HSB3.out (by rw [HNW.out]; exact hnwb) (by rw [HNS.out]; exact hs4) (by rw [HNS.out]; exact hrl) hb4 ho4; rw [HFR.out] at hdl; clear hcl hs4 ho4 hb4)
    | (go_at_call 81; refine hdl.mono ?_; rintro e w5 ⟨A5, n5, c5, h5, rfl, hn5, hs5, ho5, hb5⟩; have hn5' : n5 = 0 := hn5; subst hn5'; have HB5 := Lib.hid hb5; clear hdl hs5 ho5 hb5 hn5)
    | fail)
  have dD5 : w5.cell? ⟨D, 0, none⟩ = some (.slice A3 nw c3) := (HB5.out.cell (p := ⟨D, 0, none⟩) (World.block_lt_of_cell? _ _ HDD.out)).trans HDD.out
  have dC5 : w5.cell? ⟨C, 0, none⟩ = some (.slice A2 ns c2) := (HB5.out.cell (p := ⟨C, 0, none⟩) (World.block_lt_of_cell? _ _ HDC2.out)).trans HDC2.out
  have h25 : Sl w5 3 1 (.slice A2 ns c2) h2 (rise bs).length ((rise bs).map encI) := HSB2.out.keep (fun b2 hb2 => HB5.out.block b2 (HSB2.out.lt b2 hb2))
  have h35 : Sl w5 3 1 (.slice A3 nw c3) h3 (ids1 m0.p.members).length ((ids1 m0.p.members).map encI) := HSB3.out.keep (fun b2 hb2 => HB5.out.block b2 (HSB3.out.lt b2 hb2))
  have hcl2 := cloneI_any w5 (.slice A3 nw c3) (ids1 m0.p.members) [] (h35.reads [] (by simp)) (by rw [HNW.out]; exact hnwb)
  rw [HNW.out] at hcl2
  have HDC5 := Lib.hid dC5
  have H25 := Lib.hid h25
  clear dC5 h25 h35
  go_upto_region 14 with (first
    | (go_at_call 82; refine hcl2.mono ?_; rintro e w6 ⟨v6, h6, rfl, hs6, hb6, ho6⟩; have hdl2 := delBy (w0 := w5) (w4 := w6) (v4 := v6) (h4 := h6) (l := ids1 m0.p.members) (k := rise bs) 85 (enters_of Tryz.func85 (by kernel_rfl) rfl) (fun y W hB hr hn => inPred2_any y C _ _ W hB hr hn) HDC5.out H25.out (by rw [HNS.out]; exact hrl) (by rw [HNW.out]; exact hs6) (by rw [HNW.out]; exact hnwb) hb6 ho6; rw [HLF.out] at hdl2; clear hcl2 hs6 ho6 hb6)
    | (go_at_call 81; refine hdl2.mono ?_; rintro e w7 ⟨A7, n7, c7, h7, rfl, hn7, hs7, ho7, hb7⟩; have hn7' : n7 = 0 := hn7; subst hn7'; have HB7 := Lib.hid hb7; clear hdl2 hs7 ho7 hb7 hn7)
    | fail)
  go_wp2_with fail
  go_ret
  exact ⟨rfl, (below_then (below_then HBB.out HB5.out) (below_then HB7.out (below_alloc1 _ _)))⟩

end Go.Proofs.YtmbibhphpjmboaaGreatDoor

namespace Go.Proofs.YtmbibhphpjmboaaGreatDoor
open Go.Shelf Go.RowKit
attribute [local go_sem ↓] Go.wp_at_zero Go.wp_at_succ

set_option maxRecDepth 100000 in
set_option maxHeartbeats 4000000 in
theorem sameB_any (v1 v2 : Value) (S1 S2 : List Nat) (l : List BoxP) (w : World) (h1 : RdS w S1 6 v1 l.length (flatG encB l)) (h2 : RdS w S2 6 v2 l.length (flatG encB l)) (hn : l.length ≤ 1099511627776) :
    Calls Tryz.prog 32 #[v1, v2] w fun e w' => e = .returned (.bool true) ∧ Below w.heap.size w w' := by
  obtain ⟨A1, c1, hv1, _, _⟩ := h1.form
  obtain ⟨A2, c2, hv2, _, _⟩ := h2.form
  subst hv1 hv2
  obtain ⟨n, hnn⟩ : ∃ n, l.length = n := ⟨_, rfl⟩
  have HR1 := Lib.hid h1
  have HR2 := Lib.hid h2
  have HNN := Lib.hid hnn
  rw [hnn] at hn ⊢
  clear h1 h2 hnn
  go_enter Tryz.func32, Tryz.ntmps32
  go_wp2_with fail
  go_loopw [5] (fun iv wr => ∃ k : Nat, k ≤ n ∧ iv = .int .i64 k ∧ Hid (Below w.heap.size w wr)) (fun iv _ => n - (intOf iv).toNat)
  case atStart => exact ⟨0, Nat.zero_le _, rfl, Lib.hid (Below.refl _ _)⟩
  case round =>
    obtain ⟨k, hk, rfl, HB⟩ := hrel
    by_cases hlt : k < n
    · have hltz : (k : Int) < (n : Int) := by omega
      have hk0 : (0 : Int) ≤ (k : Int) := by omega
      have hkl : k < l.length := by rw [HNN.out]; exact hlt
      have hkw : IntKind.i64.wrap ((k : Int) + 1) = (k : Int) + 1 := IntWalk.i64_in _ (by omega)
      obtain ⟨y, hy⟩ : ∃ y, l[k] = y := ⟨_, rfl⟩
      obtain ⟨b1, o1, c1', hv1, _, _, hl1, _, hat1⟩ := HR1.out.at_ (by omega)
      obtain ⟨b2, o2, c2', hv2, _, _, hl2, _, hat2⟩ := HR2.out.at_ (by omega)
      have e1 := (Value.slice.inj hv1).1
      have e2 := (Value.slice.inj hv2).1
      subst e1 e2
      have hc1 : ∀ j, j < 6 → wr.cell? ⟨b1, o1 + k * 6 + j, none⟩ = (encB y)[j]? := fun j hj => by
        rw [Nat.add_assoc]
        refine (HB.out.cell hl1).trans ((hat1 (k * 6 + j) (by omega)).trans ?_)
        rw [flatG_get encB_length l k j hkl hj, hy]
      have hc2 : ∀ j, j < 6 → wr.cell? ⟨b2, o2 + k * 6 + j, none⟩ = (encB y)[j]? := fun j hj => by
        rw [Nat.add_assoc]
        refine (HB.out.cell hl2).trans ((hat2 (k * 6 + j) (by omega)).trans ?_)
        rw [flatG_get encB_length l k j hkl hj, hy]
      have p0 : wr.cell? ⟨b1, o1 + k * 6, none⟩ = some (.int .i64 y.id) := hc1 0 (by omega)
      have p1 : wr.cell? ⟨b1, o1 + k * 6 + 1, none⟩ = some (.string ⟨y.name.toArray⟩) := hc1 1 (by omega)
      have p2 : wr.cell? ⟨b1, o1 + k * 6 + 2, none⟩ = some (.int .i64 y.parent) := hc1 2 (by omega)
      have p3 : wr.cell? ⟨b1, o1 + k * 6 + 3, none⟩ = some (.int .i64 y.valid) := hc1 3 (by omega)
      have p4 : wr.cell? ⟨b1, o1 + k * 6 + 4, none⟩ = some (.int .i64 y.next) := hc1 4 (by omega)
      have p5 : wr.cell? ⟨b1, o1 + k * 6 + 5, none⟩ = some (.int .i64 y.mod) := hc1 5 (by omega)
      have q0 : wr.cell? ⟨b2, o2 + k * 6, none⟩ = some (.int .i64 y.id) := hc2 0 (by omega)
      have q1 : wr.cell? ⟨b2, o2 + k * 6 + 1, none⟩ = some (.string ⟨y.name.toArray⟩) := hc2 1 (by omega)
      have q2 : wr.cell? ⟨b2, o2 + k * 6 + 2, none⟩ = some (.int .i64 y.parent) := hc2 2 (by omega)
      have q3 : wr.cell? ⟨b2, o2 + k * 6 + 3, none⟩ = some (.int .i64 y.valid) := hc2 3 (by omega)
      have q4 : wr.cell? ⟨b2, o2 + k * 6 + 4, none⟩ = some (.int .i64 y.next) := hc2 4 (by omega)
      have q5 : wr.cell? ⟨b2, o2 + k * 6 + 5, none⟩ = some (.int .i64 y.mod) := hc2 5 (by omega)
      clear hc1 hc2 hat1 hat2 hv1 hv2 hy
      go_wp2_with fail
      go_quiet (fail)
      go_wp2_with fail
      refine ⟨?_, by simp [intOf]; omega⟩
      first | exact ⟨k + 1, by omega, by go_num, Lib.hid (below_drewN' HB.out _)⟩ | ((repeat apply Exists.intro); exact ⟨⟨k + 1, by omega, by go_num, Lib.hid (below_drewN' HB.out _)⟩, rfl⟩)
    · have hltz : ¬ (k : Int) < (n : Int) := by omega
      go_wp2_with fail
      go_ret
      exact ⟨rfl, HB.out⟩

end Go.Proofs.YtmbibhphpjmboaaGreatDoor
