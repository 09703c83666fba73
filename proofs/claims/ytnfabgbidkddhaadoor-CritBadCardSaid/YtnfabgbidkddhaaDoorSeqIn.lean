/-
  The walks of pillarboxref17.Ranges, pillarboxref17.In and seq.In: are two lists of ranges one; is a number within one of them.
-/
import Derived.Test.YtnfabgbidkddhaaDoorSeqRow
import Derived.Test.YtnfabgbidkddhaaDoorSeqPart
import Derived.Laws.StructEq
import Derived.Shelf.SlicesQ.IndexFunc
import Derived.Ground.SlgfProg
import Derived.Deep.QuietTactic
namespace Go.Proofs.YtnfabgbidkddhaaDoor
open Go.Shelf Go.RowKit Go.Lib
attribute [local go_sem ↓] Go.wp_at_zero Go.wp_at_succ

def inR (x : Int) (r : Rg) : Bool := decide (r.1 ≤ x) && decide (x ≤ r.2)
def inL (l : List Rg) (x : Int) : Bool := l.any (inR x)
theorem inL_has (l : List Rg) (x : Int) : inL l x = true ↔ Has l x := by
  unfold inL Has
  rw [List.any_eq_true]
  simp [inR]

shelf_lay_g SlLaysH0.n8 Slgf 8 at Tryd 35 as Tryd.containsR

theorem inPred_any (x : Int) (B : Nat) (w : World) (hB : w.cell? ⟨B, 0, none⟩ = some (.int .i64 x)) :
    PredBelow Tryd.prog 36 #[.pointer (some ⟨B, 0, none⟩)] (fun r => .agg (encR r).toArray) (inR x) w := by
  intro W r hb
  have hlt := World.block_lt_of_cell? _ _ hB
  have hc := (hb.cell (p := ⟨B, 0, none⟩) hlt).trans hB
  have hlt2 : B < W.heap.size := Nat.lt_of_lt_of_le hlt hb.size
  obtain ⟨a, b⟩ := r
  show Calls Tryd.prog 36 #[.agg #[.int .i64 a, .int .i64 b], .pointer (some ⟨B, 0, none⟩)] W _
  have hc2 : (W.alloc (.cells #[.int .i64 a, .int .i64 b] 58)).cell? ⟨B, 0, none⟩ = some (.int .i64 x) := (World.cell?_alloc_lt W _ _ hlt2).trans hc
  have HB := Lib.hid hb
  unfold inR
  clear hb hc hB
  by_cases ha : a ≤ x
  · by_cases hb : x ≤ b
    · have e : (decide (a ≤ x) && decide (x ≤ b)) = true := by simp [ha, hb]
      simp only [e]
      clear e
      go_enter Tryd.func36, Tryd.ntmps36
      go_wp2
      go_ret
      exact ⟨rfl, HB.out.alloc HB.out.size _⟩
    · have e : (decide (a ≤ x) && decide (x ≤ b)) = false := by simp [hb]
      simp only [e]
      clear e
      go_enter Tryd.func36, Tryd.ntmps36
      go_wp2
      go_ret
      exact ⟨rfl, HB.out.alloc HB.out.size _⟩
  · have e : (decide (a ≤ x) && decide (x ≤ b)) = false := by simp [ha]
    simp only [e]
    clear e
    go_enter Tryd.func36, Tryd.ntmps36
    go_wp2
    go_ret
    exact ⟨rfl, HB.out.alloc HB.out.size _⟩

theorem below_all {B : Nat} {w w' : World} (h : Below w'.heap.size w' w) (hB : B ≤ w'.heap.size) : Below B w' w := h.mono hB

end Go.Proofs.YtnfabgbidkddhaaDoor
