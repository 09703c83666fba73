/-
  A slice of structs sorted by a whole number that no two share: what the library's SortFunc leaves; the walk of cmp.Compare at int.
  The library's SortFunc over members, as the store's Place calls it.
-/
import Derived.Test.YtgkfknbhkonfdaaGreatDoorGA
import Derived.Test.YtgkfknbhkonfdaaGreatDoorGC
import Derived.Test.YtgkfknbhkonfdaaGreatDoorGD
import Derived.Test.YtgkfknbhkonfdaaGreatDoorProg
import Derived.Deep.RegionWith
import Derived.Shelf.SlSortCmp.WholeK
import Derived.Shelf.SlGeneric
import Derived.Shelf.Lay
import Derived.Ground.SlsfProg
import Derived.Deep.DrawnRows
import Derived.BigQuiet
namespace Go.Proofs.YtgkfknbhkonfdaaGreatDoor
open Go.Shelf Go.RowKit Go.Lib Go.Sort
attribute [local go_sem ↓] Go.wp_at_zero Go.wp_at_succ

set_option maxRecDepth 100000 in
theorem cmpG_any (x y : Int) (w : World) : Calls Tryz.prog 98 #[.int .i64 x, .int .i64 y] w fun e w' => e = .returned (.int .i64 (Lib.compareInt x y)) ∧ w = w' := by
  obtain ⟨r, hr⟩ : ∃ r, Lib.compareInt x y = r := ⟨_, rfl⟩
  rw [hr]
  have HR := Lib.hid hr
  clear hr
  by_cases h1 : x < y
  · have hr2 : r = -1 := by rw [← HR.out]; exact if_pos h1
    subst hr2
    clear HR
    go_enter Tryz.func98, Tryz.ntmps98
    go_wp2
    go_ret
    exact ⟨rfl, rfl⟩
  · by_cases h2 : y < x
    · have hr2 : r = 1 := by rw [← HR.out]; unfold Lib.compareInt; rw [if_neg h1, if_pos h2]
      subst hr2
      clear HR
      go_enter Tryz.func98, Tryz.ntmps98
      go_wp2
      go_ret
      exact ⟨rfl, rfl⟩
    · have hr2 : r = 0 := by rw [← HR.out]; unfold Lib.compareInt; rw [if_neg h1, if_neg h2]
      subst hr2
      clear HR
      go_enter Tryz.func98, Tryz.ntmps98
      go_wp2
      go_ret
      exact ⟨rfl, rfl⟩

theorem flatK_flatG {α : Type} [Inhabited α] (encA : α → List Value) (k : Nat) (hk : 0 < k) (hl : ∀ a, (encA a).length = k) (l : List α) : (flatK encA k l.toArray).toList = flatG encA l := by
  apply List.ext_getElem
  · simp [flatG_length hl]
  · intro t h1 h2
    have ht : t < l.length * k := by simpa [flatG_length hl] using h2
    have hg := get_flatK encA k l.toArray t (by simpa using ht)
    rw [getElem!_pos _ _ (by simpa using ht)] at hg
    rw [Array.getElem_toList, hg]
    have hj : t / k < l.length := (Nat.div_lt_iff_lt_mul hk).2 ht
    have hm : t % k < k := Nat.mod_lt _ hk
    have h3 := flatG_get hl l (t / k) (t % k) hj hm
    have h4 : t / k * k + t % k = t := by
      rw [Nat.mul_comm]
      exact Nat.div_add_mod t k
    rw [h4, List.getElem?_eq_getElem h2] at h3
    have hx : (l.toArray[t / k]! : α) = l[t / k] := by rw [getElem!_pos _ _ (by simpa using hj)]; simp
    rw [hx]
    have hle : t % k < (encA l[t / k]).length := by rw [hl]; exact hm
    rw [List.getElem?_eq_getElem hle] at h3
    rw [getElem!_pos (encA l[t / k]) (t % k) hle]
    exact (Option.some.inj h3).symm

section
variable {w w' : World} {e : TypeId} {b off n cap size : Nat} {h : Option Nat} {xs : List Value}

theorem growG_chg (w : World) (q : Nat) (d : Array Value) (b off : Nat) (os : Array Obj) : Chg [b] w (grow (putRow id (Sort.ahead w q) b off d) os) := by
  refine ⟨rfl, rfl, rfl, by simp, fun k hk hne => ?_⟩
  rw [heap_grow_old _ _ (by simpa using hk)]
  have : b ≠ k := fun e => hne (by simp [e])
  simp [putRow, mapBlock, Sort.ahead, Array.getElem?_modify, this]
theorem growG_blk {cur : Array Value} (hB : Blk w b e cur) (q : Nat) (d : Array Value) (os : Array Obj) : Blk (grow (putRow id (Sort.ahead w q) b off d) os) b e (putCells id off d cur) := by
  have hlt := hB.lt
  unfold Blk at hB ⊢
  rw [heap_grow_old _ _ (by simpa using hlt)]
  simp [putRow, mapBlock, Sort.ahead, Array.getElem?_modify, hB]
  rfl
theorem putCellsG_at (cur : Array Value) (d : Array Value) (h : off + d.size ≤ cur.size) : ((putCells id off d cur).toList.drop off).take d.size = d.toList := by
  apply List.ext_getElem?
  intro k
  rw [List.getElem?_take]
  by_cases hk : k < d.size
  · rw [if_pos hk, List.getElem?_drop]
    simp only [putCells, Array.getElem?_toList, Array.getElem?_mapIdx]
    rw [Array.getElem?_eq_getElem (show off + k < cur.size by omega), Option.map_some, if_pos ⟨by omega, by omega⟩, Nat.add_sub_cancel_left]
    simp [hk]
  · rw [if_neg hk, List.getElem?_eq_none]
    simp
    omega
theorem Sl.putRowG (hs : Sl w e size (.slice (some ⟨b, off, none⟩) n cap) h n xs) (q : Nat) (d : Array Value) (hd : d.size = n * size) (os : Array Obj) :
    Sl (grow (Sort.putRow id (Sort.ahead w q) b off d) os) e size (.slice (some ⟨b, off, none⟩) n cap) h n d.toList := by
  refine ⟨by simpa using hd, ?_⟩
  rcases hs.2 with ⟨_, hv, _⟩ | ⟨b', off', cap', cur, hh, hv, hB, hnc, hcm, hcs, ht⟩
  · cases hv
  · simp only [Value.slice.injEq, Option.some.injEq, Addr.mk.injEq, and_true, true_and] at hv
    obtain ⟨⟨rfl, rfl⟩, rfl⟩ := hv
    have hle : n * size ≤ cap * size := Nat.mul_le_mul_right _ hnc
    refine .inr ⟨b, off, cap, _, hh, rfl, growG_blk hB q d os, hnc, hcm, by simpa [putCells] using hcs, ?_⟩
    rw [← hd]
    exact putCellsG_at cur d (by omega)
theorem Sl.holdsG {d : Array Value} (hs : Sl w e size (.slice (some ⟨b, off, none⟩) n cap) h n d.toList) : Holds id w b off d := by
  have hn : d.size = n * size := by have := hs.1; simpa using this
  intro j hj
  have hn0 : 0 < n := by
    rcases Nat.eq_zero_or_pos n with h0 | h0
    · subst h0; omega
    · exact h0
  obtain ⟨b', off', cap', hh, hv, _, _, _, hat⟩ := hs.at_ hn0
  simp only [Value.slice.injEq, Option.some.injEq, Addr.mk.injEq, and_true, true_and] at hv
  obtain ⟨⟨rfl, rfl⟩, rfl⟩ := hv
  obtain ⟨h1, h2⟩ := hat j (by omega)
  refine ⟨?_, h2⟩
  rw [h1]
  simp [hj]
end

/-- By what they are sorted. -/
def cfG {α : Type} (key : α → Int) (x y : α) : Int := Lib.compareInt (key x) (key y)
theorem ltG {α : Type} (key : α → Int) (x y : α) : ltOf (cfG key) x y = decide (key x < key y) := by
  unfold ltOf cfG Lib.compareInt
  by_cases h1 : key x < key y
  · simp [h1]
  · by_cases h2 : key y < key x
    · simp [h1, h2]
    · simp [h1, h2]
theorem swoG {α : Type} (key : α → Int) : SWO (ltOf (cfG key)) where
  irrefl x := by rw [ltG]; simp
  trans x y z h1 h2 := by rw [ltG] at *; simp only [decide_eq_true_eq] at *; omega
  ntrans x y z h1 h2 := by rw [ltG] at *; simp only [decide_eq_false_iff_not] at *; omega

theorem strict_inj {α : Type} (key : α → Int) {m : List α} (hm : m.Pairwise fun a b => key a < key b) {a b : α} (ha : a ∈ m) (hb : b ∈ m) (h : key a = key b) : a = b := by
  obtain ⟨i, hi, rfl⟩ := List.getElem_of_mem ha
  obtain ⟨j, hj, rfl⟩ := List.getElem_of_mem hb
  have hp := List.pairwise_iff_getElem.1 hm
  rcases Nat.lt_trichotomy i j with h1 | h1 | h1
  · have := hp i j hi hj h1
    omega
  · subst h1
    rfl
  · have := hp j i hj hi h1
    omega
theorem perm_keys_eq {α : Type} (key : α → Int) {l m : List α} (hp : l.Perm m) (hl : l.Pairwise fun a b => key a ≤ key b) (hm : m.Pairwise fun a b => key a < key b) : l = m := by
  refine List.Perm.eq_of_pairwise (le := fun a b => key a ≤ key b) ?_ hl (hm.imp fun h => Int.le_of_lt h) hp
  intro a b ha hb h1 h2
  exact strict_inj key hm (hp.mem_iff.1 ha) hb (by omega)
/-- What the library's sort leaves is the one rising list. -/
theorem sorted_is {α : Type} [Inhabited α] (key : α → Int) {l m : List α} {d' : Array α} (hP : PermIn 0 l.toArray.size l.toArray d') (hS : SortedIn (ltOf (cfG key)) 0 l.toArray.size d') (hp : m.Perm l) (hm : m.Pairwise fun a b => key a < key b) : d' = m.toArray := by
  obtain ⟨hsz, _, hperm⟩ := hP
  have e1 : d'.extract 0 l.toArray.size = d' := by rw [← hsz]; exact Array.extract_size
  rw [e1, Array.extract_size] at hperm
  have h1 : d'.toList = m := by
    refine perm_keys_eq key (hperm.trans hp.symm) ?_ hm
    rw [List.pairwise_iff_getElem]
    intro i j hi hj hij
    have hi' : i < d'.size := by simpa using hi
    have hj' : j < d'.size := by simpa using hj
    have := hS i j (Nat.zero_le _) hij (by omega)
    rw [getElem!_pos d' j hj', getElem!_pos d' i hi', ltG] at this
    simp only [decide_eq_false_iff_not] at this
    simp only [Array.getElem_toList]
    omega
  rw [← h1]

end Go.Proofs.YtgkfknbhkonfdaaGreatDoor

namespace Go.Proofs.YtgkfknbhkonfdaaGreatDoor
open Go.Shelf Go.RowKit Go.Lib Go.Sort
attribute [local go_sem ↓] Go.wp_at_zero Go.wp_at_succ

set_option maxRecDepth 100000 in
set_option maxHeartbeats 1000000 in
theorem placeCmp_any (x y : Int × Int) (W : World) : Calls Tryz.prog 108 #[.agg #[.int .i64 x.1, .int .i64 x.2], .agg #[.int .i64 y.1, .int .i64 y.2]] W fun e w' => e = .returned (.int .i64 (cfG (fun p : Int × Int => p.1) x y)) ∧ ∃ q os', w' = grow (W.drewN q) os' := by
  obtain ⟨x1, x2⟩ := x
  obtain ⟨y1, y2⟩ := y
  unfold cfG
  simp only
  obtain ⟨r1, hr1⟩ : ∃ r, Lib.compareInt x1 y1 = r := ⟨_, rfl⟩
  have hc1 := fun W => cmpG_any x1 y1 W
  rw [hr1] at hc1 ⊢
  clear hr1
  go_enter Tryz.func108, Tryz.ntmps108
  go_wp2_with (first
    | (go_at_call 98; with_reducible refine (hc1 _).mono ?_; rintro e w3 ⟨rfl, rfl⟩)
    | fail)
  go_ret
  exact ⟨rfl, 0, _, by rw [alloc_eq_grow, alloc_eq_grow, grow_grow]; rfl⟩

theorem placeCmp_lays (blk off size : Nat) (w : World) : CmpLays Tryz.prog 108 #[] encMem 2 (cfG fun p : Int × Int => p.1) blk off size w :=
  fun _ _ _ _ x y => placeCmp_any x y _

shelf_lay_g SlLaysF0.n6 Slsf 6 at Tryz 107 as Tryz.sortMem

theorem sortM_perm {l : List (Int × Int)} (h : (l.map (·.1)).Nodup) : (sortM l).Perm l := by
  obtain ⟨h1, h2⟩ := sortM_ok h
  refine (List.perm_ext_iff_of_nodup ?_ ?_).2 h2
  · exact h1.imp fun {a b} hab e => by
      rw [e] at hab
      exact absurd hab (Int.lt_irrefl _)
  · exact (List.pairwise_map.1 h).imp fun {a b} hab e => hab (by rw [e])
theorem sortM_length {l : List (Int × Int)} (h : (l.map (·.1)).Nodup) : (sortM l).length = l.length := (sortM_perm h).length_eq

set_option maxHeartbeats 400000 in
theorem sortMem_any (w : World) (A : Addr) (cap : Nat) (h : Option Nat) (l : List (Int × Int)) (hs : Sl w 138 2 (.slice (some A) l.length cap) h l.length (flatG encMem l)) (hd : (l.map (·.1)).Nodup) (hn : l.length ≤ 1099511627776) :
    Calls Tryz.prog 107 #[.slice (some A) l.length cap, .func (.func 108) #[] #[]] w fun e w' => e = .returned (.tuple #[]) ∧ Sl w' 138 2 (.slice (some A) l.length cap) h l.length (flatG encMem (sortM l)) ∧ Chg h.toList w w' := by
  rcases hs.2 with ⟨_, hv, _⟩ | ⟨b, off, cap', cur, rfl, hv, hB, hnc, hcm, hcs, ht⟩
  · cases hv
  · injection hv with hv1 _ hv3
    injection hv1 with hv1
    subst hv1 hv3
    have hs' := hs
    rw [← flatK_flatG encMem 2 (by omega) encMem_length l] at hs'
    have eg : ∀ args w, (callFunc 108 args).run Tryz.prog w = .ok (.enter 108 args) w := enters_of Tryz.func108 (by kernel_rfl) rfl
    have hc := AnyQ.slices_SortFunc Tryz.sortMem 2 Tryz.isAgg138 Tryz.sizeOf138 encMem encMem_length encMem_one (cfG fun p : Int × Int => p.1) (swoG _) 108 #[] b off cap l.toArray w eg (placeCmp_lays b off _ w) hs'.holdsG hB.lt (by simp; omega)
    have hsz : l.toArray.size = l.length := by simp
    rw [hsz] at hc
    refine hc.mono ?_
    rintro e w' ⟨rfl, d', q, os, hP, hS, rfl⟩
    have hd' : d' = (sortM l).toArray := sorted_is (fun p : Int × Int => p.1) (by rw [hsz]; exact hP) (by rw [hsz]; exact hS) (sortM_perm hd) (sortM_ok hd).1
    subst hd'
    refine ⟨rfl, ?_, growG_chg _ _ _ _ _ _⟩
    have h2 := hs.putRowG q (flatK encMem 2 (sortM l).toArray) (by simp [sortM_length hd]) os
    rw [flatK_flatG encMem 2 (by omega) encMem_length] at h2
    exact h2

end Go.Proofs.YtgkfknbhkonfdaaGreatDoor
