/-
  slices.SortFunc at ranges, as seq.Merge calls it: the row holds what it held, sorted.
-/
import Derived.Test.YtnfabgbidkddhaaDoorSeqSort
namespace Go.Proofs.YtnfabgbidkddhaaDoor
open Go.Shelf Go.RowKit Go.Lib Go.Sort

theorem closure_lays (blk off size : Nat) (w : World) : CmpLays Tryd.prog 39 #[] encR 2 cfR blk off size w :=
  fun _ _ _ _ x y => closure_any x y _

shelf_lay_g SlLaysF0.n6 Slsf 6 at Tryd 38 as Tryd.sortR

def sortedR (d : List Rg) : List Rg := d.mergeSort fun x y => !(ltOf cfR) y x

theorem sortR_any (blk off cap : Nat) (d : Array Rg) (w : World) (hH : HoldsK encR 2 w blk off d) (hblk : blk < w.heap.size) (hsz : d.size < 4611686018427387904) :
    Calls Tryd.prog 38 #[.slice (some ⟨blk, off, none⟩) d.size cap, .func (.func 39) #[] #[]] w fun e w' =>
      e = .returned (.tuple #[]) ∧ ∃ n os, w' = sortWorldK encR 2 w blk off n (sortedR d.toList).toArray os := by
  have eg : ∀ args w, (callFunc 39 args).run Tryd.prog w = .ok (.enter 39 args) w := enters_of Tryd.func39 (by kernel_rfl) rfl
  exact AnyQ.slices_SortFunc_total Tryd.sortR 2 Tryd.isAgg58 Tryd.sizeOf58 encR (fun _ => rfl) (fun x v hv => by simp [encR] at hv; rcases hv with rfl | rfl <;> rfl) cfR swoR 39 #[] blk off cap d w eg (closure_lays blk off d.size w) hH hblk hsz totR

theorem sortR_none (p : Option Addr) (cap : Nat) (fv : Value) (w : World) :
    Calls Tryd.prog 38 #[.slice p 0 cap, fv] w fun e w' => e = .returned (.tuple #[]) ∧ w' = w :=
  AnyF.slices_SortFunc_none Tryd.sortR p cap fv w

theorem sortedR_perm (d : List Rg) : (sortedR d).Perm d := List.mergeSort_perm d _
theorem sortedR_low (d : List Rg) : (sortedR d).Pairwise fun x y => x.1 ≤ y.1 := by
  have h := List.pairwise_mergeSort (le := fun x y => !(ltOf cfR) y x) (fun x y z h1 h2 => by
    simp only [ltR, Bool.not_eq_true', decide_eq_false_iff_not] at *
    omega) (fun x y => by
    simp only [ltR, Bool.or_eq_true, Bool.not_eq_true', decide_eq_false_iff_not]
    omega) d
  refine h.imp fun {x y} hxy => ?_
  simp only [ltR, Bool.not_eq_true', decide_eq_false_iff_not] at hxy
  omega

end Go.Proofs.YtnfabgbidkddhaaDoor
