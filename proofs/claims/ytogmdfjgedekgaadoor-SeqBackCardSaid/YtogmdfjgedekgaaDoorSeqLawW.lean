/-
  What the laws on sets share: a number's digits, a text that is read, the document's example; plain facts of sets of one or two parts.
-/
import Derived.Test.YtogmdfjgedekgaaDoorSeqSame
import Derived.Test.YtogmdfjgedekgaaDoorSeqRefText
import Derived.Test.YtogmdfjgedekgaaDoorSeqIn
import Derived.Laws.StructEq
namespace Go.Proofs.YtogmdfjgedekgaaDoor
open Go.RowKit Go.Lib
attribute [local go_sem ↓] Go.wp_at_zero Go.wp_at_succ

theorem numS_any (w : World) (n : Int) : Calls Tryd.prog 11 #[.int .i64 n] w fun e w' => e = .returned (.int .i64 n) ∧ w = w' := by
  go_enter Tryd.func11, Tryd.ntmps11
  go_wp2
  go_ret
  exact ⟨rfl, rfl⟩

/-- A text that is read, its set known. -/
theorem readV_any (l : List UInt8) (star : Int) (L : List Rg) (err : Int) (w : World) (hl : l.length ≤ 140737488351232) (hst : star ≤ 9223372036854775807) (hm : Mx w) (he : refReadL l star = (L, err)) :
    Calls Tryd.prog 10 #[.string ⟨l.toArray⟩, .int .i64 star] w (RetR w.heap.size w (L, err)) := by
  have h := read_any ⟨l.toArray⟩ star w (by show l.toArray.size ≤ _; simpa using hl) hst hm
  have e : readL (ByteArray.mk l.toArray).data.toList star = (L, err) := by rw [readL_eq]; exact he
  rw [e] at h
  exact h

theorem rowT_one (n : Int) : rowT (n, n) = digL n := by
  unfold rowT
  rw [if_neg (by simp), List.append_nil]
theorem textL_one (n : Int) (h : 1 ≤ n) : textL [n] = digL n := by
  unfold textL tRows
  rw [List.foldl_cons, tStep_none (by omega), List.foldl_nil]
  simp only [List.map_cons, List.map_nil, rowT_one]
  exact join_one _ _

theorem rdsNew1 (w : World) (t : TypeId) (u : Value) : RdS (w.alloc (.cells #[u] t)) [] 1 (.slice (some ⟨w.heap.size, 0, none⟩) 1 1) 1 [u] := by
  refine ⟨rfl, .inr ⟨_, 1, rfl, Nat.le_refl _, by decide, fun _ => ⟨rfl, by simp, by simp, fun j hj => ?_⟩⟩⟩
  have hB := Blk.new w t #[u]
  simp only [Nat.zero_add]
  rw [hB.cell j]
  simp

set_option maxRecDepth 100000 in
theorem digitsL_any (n : Nat) (h : n ≤ 65535) (w : World) :
    Calls Tryd.prog 9 #[.int .u16 n] w fun e w' => e = .returned (.string ⟨(digL (1 + (n : Int))).toArray⟩) ∧ Below w.heap.size w w' := by
  have ht := fun W (hr : RdS W [] 1 (.slice (some ⟨w.heap.size, 0, none⟩) 1 1) 1 (intV [1 + (n : Int)])) => refText_any W (.slice (some ⟨w.heap.size, 0, none⟩) 1 1) 1 [1 + (n : Int)] rfl hr (by omega) (by simp; omega)
  rw [textL_one _ (by omega)] at ht
  have hn0 : (n : Int) ≤ 65535 := by omega
  generalize digL (1 + (n : Int)) = D at ht
  go_enter Tryd.func9, Tryd.ntmps9
  go_wp2_with (first
    | (go_at_call 21; refine (ht _ (rdsNew1 w 3 (.int .i64 (1 + (n : Int))))).mono ?_; rintro e w2 ⟨rfl, hb⟩; have HB := Lib.hid (((Below.refl w.heap.size w).alloc (Nat.le_refl _) (.cells #[.int .i64 (1 + (n : Int))] 3)).trans (hb.mono (by simp))); clear hb ht)
    | fail)
  go_ret
  exact ⟨rfl, HB.out⟩

/- sets of one part, of two -/
theorem refRead_one (l : List UInt8) (star : Int) (r : Rg) (hn : l.length ≤ 1000) (hc : ∀ b ∈ l, b ≠ 44) (hp : partL l star = (r, true)) : refReadL l star = (rGo [r], 0) := by
  unfold refReadL
  rw [if_neg (by omega), piecesC_end 44 l hc]
  unfold refGo
  rw [hp]
  rfl
theorem refRead_bad1 (l : List UInt8) (star : Int) (hn : l.length ≤ 1000) (hc : ∀ b ∈ l, b ≠ 44) (hp : (partL l star).2 = false) : refReadL l star = ([], 3) := by
  unfold refReadL
  rw [if_neg (by omega), piecesC_end 44 l hc]
  unfold refGo
  rw [hp]
  rfl
theorem rGo_one (a b : Int) : rGo [(a, b)] = if b < max a 1 then [] else [(max a 1, b)] := by
  unfold rGo
  rw [List.foldl_cons, List.foldl_nil]
  unfold rStep
  rfl

theorem awakeL : refReadL [51, 58, 49, 44, 53] 9 = ([(1, 3), (5, 5)], 0) := by decide +kernel

set_option maxRecDepth 100000 in
set_option maxHeartbeats 1000000 in
theorem awakeS_any (w : World) (hm : Mx w) : Calls Tryd.prog 13 #[] w fun e w' => e = .returned (.bool true) ∧ Below w.heap.size w w' := by
  have hr := readV_any [51, 58, 49, 44, 53] 9 [(1, 3), (5, 5)] 0 w (by decide) (by decide) hm awakeL
  have hNu := fun W => numS_any W 0
  clear hm
  go_enter Tryd.func13, Tryd.ntmps13
  go_wp2_with (first
    | (go_at_call 10; refine hr.mono ?_; rintro e w2 ⟨v2, h2, rfl, hs, hb⟩; have HB := Lib.hid hb; obtain ⟨b, off, cap, _, rfl, hnc, hcm, hlt, hat⟩ := hs.at_ (by decide); have c0 := (hat 0 (by decide)).1; have c1 := (hat 1 (by decide)).1; have c2 := (hat 2 (by decide)).1; have c3 := (hat 3 (by decide)).1; clear hat hr hb hs; simp only [flatR, encR, List.flatMap_cons, List.flatMap_nil, List.append_nil, List.cons_append, List.nil_append, List.length_cons, List.length_nil, List.getElem?_cons_zero, List.getElem?_cons_succ, Nat.add_zero] at c0 c1 c2 c3 hnc)
    | (go_at_call 11; refine (hNu _).mono ?_; rintro e wn ⟨rfl, rfl⟩)
    | fail)
  go_ret
  exact ⟨rfl, HB.out⟩

end Go.Proofs.YtogmdfjgedekgaaDoor
