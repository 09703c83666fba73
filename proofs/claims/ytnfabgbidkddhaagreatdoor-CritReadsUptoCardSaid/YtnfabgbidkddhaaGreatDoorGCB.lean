/-
  Plain laws of sets of numbers: ranges that are apart and rising say a set in one way; the program's merge and the reference's give that. No condition.
  Memory in words of this seat: a block known whole, what a step has turned, a slice that the call's own memory holds (at any offset), and append onto it. Over any program.
  The walks of cmp.Compare, cmp.Or at int, of the comparison that seq.Merge sorts by, and of slices.SortFunc at ranges.
  slices.SortFunc at ranges, as seq.Merge calls it: the row holds what it held, sorted.
  Slices of ranges of the call's own: cloned, sorted.
  A slice of ranges cloned into memory of the call's own, whose block begins with it; an append into such a block that has room, as seq.Merge makes it.
-/
import Derived.Test.YtnfabgbidkddhaaGreatDoorGCA
import Derived.Lib.Hide
import Derived.RegionTactic
import Derived.Deep.Draws
import Derived.Test.YtnfabgbidkddhaaGreatDoorProg
import Derived.Deep.RegionWith
import Derived.Shelf.SlSortCmp.NoneTotal
import Derived.Shelf.SlGeneric
import Derived.Shelf.Lay
import Derived.Ground.SlsfProg
import Derived.Deep.DrawnRows
import Derived.BigQuiet
import Derived.Shelf.SlicesE.Clone
import Derived.Ground.SlgnProg
namespace Go.Proofs.YtnfabgbidkddhaaGreatDoor

abbrev Rg := Int × Int

def Canon (l : List Rg) : Prop := l.Pairwise (fun x y => x.2 + 1 < y.1) ∧ ∀ x ∈ l, x.1 ≤ x.2
def Has (l : List Rg) (n : Int) : Prop := ∃ x ∈ l, x.1 ≤ n ∧ n ≤ x.2

theorem has_nil (n : Int) : ¬ Has [] n := by rintro ⟨x, hx, _⟩; cases hx

theorem has_cons (x : Rg) (l : List Rg) (n : Int) : Has (x :: l) n ↔ (x.1 ≤ n ∧ n ≤ x.2) ∨ Has l n := by
  constructor
  · rintro ⟨y, hy, h⟩
    rcases List.mem_cons.mp hy with rfl | hy
    · exact .inl h
    · exact .inr ⟨y, hy, h⟩
  · rintro (h | ⟨y, hy, h⟩)
    · exact ⟨x, List.mem_cons_self, h⟩
    · exact ⟨y, List.mem_cons_of_mem _ hy, h⟩

theorem has_append (l m : List Rg) (n : Int) : Has (l ++ m) n ↔ Has l n ∨ Has m n := by
  induction l with
  | nil => simp [has_nil]
  | cons x l ih => rw [List.cons_append, has_cons, has_cons, ih, or_assoc]

theorem has_one (x : Rg) (n : Int) : Has [x] n ↔ x.1 ≤ n ∧ n ≤ x.2 := by
  rw [has_cons]; simp [has_nil]

theorem canon_tail {x : Rg} {l : List Rg} (h : Canon (x :: l)) : Canon l :=
  ⟨(List.pairwise_cons.mp h.1).2, fun y hy => h.2 y (List.mem_cons_of_mem _ hy)⟩

theorem canon_low {x : Rg} {l : List Rg} (h : Canon (x :: l)) {n : Int} (hn : Has l n) : x.2 + 1 < n := by
  obtain ⟨y, hy, h1, _⟩ := hn
  have := (List.pairwise_cons.mp h.1).1 y hy
  omega

theorem canon_unique : ∀ {l m : List Rg}, Canon l → Canon m → (∀ n, Has l n ↔ Has m n) → l = m
  | [], [], _, _, _ => rfl
  | [], y :: m, _, hm, h => by
    have := hm.2 y List.mem_cons_self
    exact absurd ((h y.1).mpr ((has_cons _ _ _).mpr (.inl ⟨Int.le_refl _, this⟩))) (has_nil _)
  | x :: l, [], hl, _, h => by
    have := hl.2 x List.mem_cons_self
    exact absurd ((h x.1).mp ((has_cons _ _ _).mpr (.inl ⟨Int.le_refl _, this⟩))) (has_nil _)
  | x :: l, y :: m, hl, hm, h => by
    have hx := hl.2 x List.mem_cons_self
    have hy := hm.2 y List.mem_cons_self
    have ha : y.1 ≤ x.1 := by
      rcases (has_cons _ _ _).mp ((h x.1).mp ((has_cons _ _ _).mpr (.inl ⟨Int.le_refl _, hx⟩))) with h1 | h1
      · exact h1.1
      · have := canon_low hm h1; omega
    have hb : x.1 ≤ y.1 := by
      rcases (has_cons _ _ _).mp ((h y.1).mpr ((has_cons _ _ _).mpr (.inl ⟨Int.le_refl _, hy⟩))) with h1 | h1
      · exact h1.1
      · have := canon_low hl h1; omega
    have hc : ¬ x.2 < y.2 := fun hlt => by
      rcases (has_cons _ _ _).mp ((h (x.2 + 1)).mpr ((has_cons _ _ _).mpr (.inl ⟨by omega, by omega⟩))) with h1 | h1
      · omega
      · have := canon_low hl h1; omega
    have hd : ¬ y.2 < x.2 := fun hlt => by
      rcases (has_cons _ _ _).mp ((h (y.2 + 1)).mp ((has_cons _ _ _).mpr (.inl ⟨by omega, by omega⟩))) with h1 | h1
      · omega
      · have := canon_low hm h1; omega
    have hxy : x = y := Prod.ext (by omega) (by omega)
    subst hxy
    rw [canon_unique (canon_tail hl) (canon_tail hm) fun n => ?_]
    constructor
    · intro hn
      have h2 := canon_low hl hn
      rcases (has_cons _ _ _).mp ((h n).mp ((has_cons _ _ _).mpr (.inr hn))) with h1 | h1
      · omega
      · exact h1
    · intro hn
      have h2 := canon_low hm hn
      rcases (has_cons _ _ _).mp ((h n).mpr ((has_cons _ _ _).mpr (.inr hn))) with h1 | h1
      · omega
      · exact h1

/- the program's merge: over a sorted list -/
def mStep (out : List Rg) (r : Rg) : List Rg :=
  match out.getLast? with
  | some t => if r.1 - 1 ≤ t.2 then out.dropLast ++ [(t.1, max t.2 r.2)] else out ++ [r]
  | none => [r]

def mGo (l : List Rg) : List Rg := l.foldl mStep []

theorem canon_snoc {l : List Rg} {x : Rg} : Canon (l ++ [x]) ↔ Canon l ∧ (∀ y ∈ l, y.2 + 1 < x.1) ∧ x.1 ≤ x.2 := by
  unfold Canon
  rw [List.pairwise_append]
  simp only [List.pairwise_cons, List.mem_singleton, List.mem_append]
  constructor
  · rintro ⟨⟨h1, _, h2⟩, h3⟩
    exact ⟨⟨h1, fun y hy => h3 y (.inl hy)⟩, fun y hy => h2 y hy x rfl, h3 x (.inr rfl)⟩
  · rintro ⟨⟨h1, h3⟩, h2, h4⟩
    exact ⟨⟨h1, ⟨by simp, List.Pairwise.nil⟩, fun y hy z hz => hz ▸ h2 y hy⟩, fun y hy => by exact hy.elim (h3 y) fun e => e ▸ h4⟩

theorem canon_last {l : List Rg} {x : Rg} (h : Canon (l ++ [x])) : ∀ y ∈ l ++ [x], y.2 ≤ x.2 := by
  intro y hy
  obtain ⟨h1, h2, h3⟩ := canon_snoc.mp h
  rcases List.mem_append.mp hy with hy | hy
  · have := h2 y hy; omega
  · rw [List.mem_singleton.mp hy]; exact Int.le_refl _

theorem mStep_ok (out : List Rg) (r : Rg) (ho : Canon out) (hr : r.1 ≤ r.2) (hlow : ∀ y ∈ out, y.1 ≤ r.1) :
    Canon (mStep out r) ∧ (∀ n, Has (mStep out r) n ↔ Has out n ∨ (r.1 ≤ n ∧ n ≤ r.2)) ∧ ∀ y ∈ mStep out r, y.1 ≤ r.1 := by
  unfold mStep
  rcases List.eq_nil_or_concat out with rfl | ⟨o, t, rfl⟩
  · refine ⟨⟨List.pairwise_cons.mpr ⟨by simp, List.Pairwise.nil⟩, by simpa using hr⟩, fun n => ?_, by simp⟩
    simp [has_one, has_nil]
  · simp only [List.concat_eq_append, List.getLast?_append, List.getLast?_singleton, Option.some_or, List.dropLast_concat] at *
    obtain ⟨h1, h2, h3⟩ := canon_snoc.mp ho
    have ht := hlow t (by simp)
    by_cases hc : r.1 - 1 ≤ t.2
    · rw [if_pos hc]
      refine ⟨canon_snoc.mpr ⟨h1, h2, ?_⟩, fun n => ?_, ?_⟩
      · show t.1 ≤ max t.2 r.2
        omega
      · rw [has_append, has_append, has_one, has_one]
        show _ ∨ (t.1 ≤ n ∧ n ≤ max t.2 r.2) ↔ _
        constructor
        · rintro (h | h)
          · exact .inl (.inl h)
          · by_cases hn : n ≤ t.2
            · exact .inl (.inr ⟨h.1, hn⟩)
            · exact .inr ⟨by omega, by omega⟩
        · rintro ((h | h) | h)
          · exact .inl h
          · exact .inr ⟨h.1, by omega⟩
          · exact .inr ⟨by omega, by omega⟩
      · intro y hy
        rcases List.mem_append.mp hy with hy | hy
        · exact hlow y (by simp [hy])
        · rw [List.mem_singleton.mp hy]; exact ht
    · rw [if_neg hc]
      refine ⟨canon_snoc.mpr ⟨ho, fun y hy => ?_, hr⟩, fun n => ?_, ?_⟩
      · have := canon_last ho y hy; omega
      · rw [has_append, has_one]
      · intro y hy
        rcases List.mem_append.mp hy with hy | hy
        · exact hlow y hy
        · rw [List.mem_singleton.mp hy]; exact Int.le_refl _

theorem mFold_ok : ∀ (l out : List Rg), Canon out → (∀ x ∈ l, x.1 ≤ x.2) → l.Pairwise (fun x y => x.1 ≤ y.1) → (∀ y ∈ out, ∀ x ∈ l, y.1 ≤ x.1) →
    Canon (l.foldl mStep out) ∧ (∀ n, Has (l.foldl mStep out) n ↔ Has out n ∨ Has l n) ∧ (l.foldl mStep out).length ≤ out.length + l.length
  | [], out, h1, _, _, _ => ⟨h1, fun n => by simp [has_nil], by simp⟩
  | x :: l, out, h1, h2, h3, h4 => by
    obtain ⟨a, b, c⟩ := mStep_ok out x h1 (h2 x List.mem_cons_self) fun y hy => h4 y hy x List.mem_cons_self
    have h3' := List.pairwise_cons.mp h3
    obtain ⟨d, e, f⟩ := mFold_ok l (mStep out x) a (fun y hy => h2 y (List.mem_cons_of_mem _ hy)) h3'.2 fun y hy z hz => Int.le_trans (c y hy) (h3'.1 z hz)
    refine ⟨d, fun n => ?_, ?_⟩
    · rw [List.foldl_cons, e, b, has_cons, or_assoc]
    · have : (mStep out x).length ≤ out.length + 1 := by
        unfold mStep
        rcases List.eq_nil_or_concat out with rfl | ⟨o, t, rfl⟩
        · simp
        · simp only [List.concat_eq_append, List.getLast?_append, List.getLast?_singleton, Option.some_or, List.dropLast_concat]
          split <;> simp
      rw [List.foldl_cons, List.length_cons]
      omega

theorem mGo_ok (l : List Rg) (h2 : ∀ x ∈ l, x.1 ≤ x.2) (h3 : l.Pairwise (fun x y => x.1 ≤ y.1)) :
    Canon (mGo l) ∧ (∀ n, Has (mGo l) n ↔ Has l n) ∧ (mGo l).length ≤ l.length := by
  obtain ⟨a, b, c⟩ := mFold_ok l [] ⟨List.Pairwise.nil, by simp⟩ h2 h3 (by simp)
  exact ⟨a, fun n => by rw [mGo, b]; simp [has_nil], by simpa [mGo] using c⟩

/- the reference's merge: each range put in -/
structure Ins where
  x : Rg
  next : List Rg
  put : Bool

def iStep (s : Ins) (y : Rg) : Ins :=
  if y.2 < s.x.1 - 1 then { s with next := s.next ++ [y] }
  else if s.x.2 < y.1 - 1 then { x := s.x, next := (if s.put then s.next else s.next ++ [s.x]) ++ [y], put := true }
  else { s with x := (min s.x.1 y.1, max s.x.2 y.2) }

def iEnd (s : Ins) : List Rg := if s.put then s.next else s.next ++ [s.x]
def iOut (s : Ins) (l : List Rg) : List Rg := iEnd (l.foldl iStep s)
def rStep (out : List Rg) (x : Rg) : List Rg :=
  let x' : Rg := (max x.1 1, x.2)
  if x'.2 < x'.1 then out else iOut ⟨x', [], false⟩ out
def rGo (l : List Rg) : List Rg := l.foldl rStep []

theorem iOut_ok : ∀ (l : List Rg) (s : Ins), Canon (s.next ++ l) → s.x.1 ≤ s.x.2 → (s.put = false → ∀ y ∈ s.next, y.2 + 1 < s.x.1) → (s.put = true → s.x ∈ s.next) →
    Canon (iOut s l) ∧ ∀ n, Has (iOut s l) n ↔ Has s.next n ∨ (s.x.1 ≤ n ∧ n ≤ s.x.2) ∨ Has l n
  | [], s, h1, h2, h3, h4 => by
    unfold iOut iEnd
    simp only [List.append_nil, List.foldl_nil] at *
    rcases Bool.eq_false_or_eq_true s.put with hp | hp
    rotate_left
    · simp only [hp, Bool.false_eq_true, if_false]
      refine ⟨canon_snoc.mpr ⟨h1, h3 hp, h2⟩, fun n => ?_⟩
      rw [has_append, has_one]; simp [has_nil]
    · simp only [hp, if_true]
      refine ⟨h1, fun n => ?_⟩
      simp only [has_nil, or_false]
      exact ⟨.inl, fun h => h.elim id fun h => ⟨s.x, h4 hp, h⟩⟩
  | y :: l, s, h1, h2, h3, h4 => by
    have hu : iOut s (y :: l) = iOut (iStep s y) l := rfl
    rw [hu]
    have hA : ∀ z ∈ s.next, z.2 + 1 < y.1 := fun z hz => (List.pairwise_append.mp h1.1).2.2 z hz y List.mem_cons_self
    have hy : y.1 ≤ y.2 := h1.2 y (by simp)
    have hnl : Canon (s.next ++ l) := by
      refine ⟨?_, fun z hz => h1.2 z (by rcases List.mem_append.mp hz with h | h <;> simp [h])⟩
      exact h1.1.sublist (List.Sublist.append_left (List.sublist_cons_self y l) _)
    unfold iStep
    by_cases c1 : y.2 < s.x.1 - 1
    · rw [if_pos c1]
      obtain ⟨a, b⟩ := iOut_ok l { s with next := s.next ++ [y] } (by simpa using h1) h2 (fun hp z hz => by
        rcases List.mem_append.mp hz with hz | hz
        · exact h3 hp z hz
        · rw [List.mem_singleton.mp hz]; show y.2 + 1 < s.x.1; omega) (fun hp => List.mem_append_left _ (h4 hp))
      refine ⟨a, fun n => ?_⟩
      rw [b, has_cons, has_append, has_one]
      show (Has s.next n ∨ _) ∨ (s.x.1 ≤ n ∧ n ≤ s.x.2) ∨ Has l n ↔ _
      grind
    · rw [if_neg c1]
      by_cases c2 : s.x.2 < y.1 - 1
      · rw [if_pos c2]
        rcases Bool.eq_false_or_eq_true s.put with hp | hp
        rotate_left
        · simp only [hp, Bool.false_eq_true, if_false]
          have hcan : Canon ((s.next ++ [s.x] ++ [y]) ++ l) := by
            have e : (s.next ++ [s.x] ++ [y]) ++ l = s.next ++ (s.x :: y :: l) := by simp
            rw [e]
            obtain ⟨p1, p2, p3⟩ := List.pairwise_append.mp h1.1
            refine ⟨List.pairwise_append.mpr ⟨p1, List.pairwise_cons.mpr ⟨fun z hz => ?_, p2⟩, fun z hz u hu => ?_⟩, fun z hz => ?_⟩
            · rcases List.mem_cons.mp hz with rfl | hz
              · omega
              · have := (List.pairwise_cons.mp p2).1 z hz; omega
            · rcases List.mem_cons.mp hu with rfl | hu
              · exact h3 hp z hz
              · exact p3 z hz u hu
            · rcases List.mem_append.mp hz with hz | hz
              · exact h1.2 z (by simp [hz])
              · rcases List.mem_cons.mp hz with rfl | hz
                · exact h2
                · exact h1.2 z (by rw [List.mem_append]; exact .inr hz)
          obtain ⟨a, b⟩ := iOut_ok l ⟨s.x, s.next ++ [s.x] ++ [y], true⟩ hcan h2 (by simp) (by simp)
          refine ⟨a, fun n => ?_⟩
          rw [b, has_cons, has_append, has_append, has_one, has_one]
          show ((Has s.next n ∨ _) ∨ _) ∨ (s.x.1 ≤ n ∧ n ≤ s.x.2) ∨ Has l n ↔ _
          grind
        · simp only [hp, if_true]
          obtain ⟨a, b⟩ := iOut_ok l ⟨s.x, s.next ++ [y], true⟩ (by simpa using h1) h2 (by simp) (fun _ => List.mem_append_left _ (h4 hp))
          refine ⟨a, fun n => ?_⟩
          rw [b, has_cons, has_append, has_one]
          show (Has s.next n ∨ _) ∨ (s.x.1 ≤ n ∧ n ≤ s.x.2) ∨ Has l n ↔ _
          grind
      · rw [if_neg c2]
        have hpf : s.put = false := by
          cases hp : s.put
          · rfl
          · have := hA s.x (h4 hp); omega
        obtain ⟨a, b⟩ := iOut_ok l { s with x := (min s.x.1 y.1, max s.x.2 y.2) } hnl (by show min s.x.1 y.1 ≤ max s.x.2 y.2; omega) (fun hp z hz => by
          have k1 := h3 hp z hz
          have k2 := hA z hz
          show z.2 + 1 < min s.x.1 y.1
          omega) (fun hp => by rw [show ({ s with x := (min s.x.1 y.1, max s.x.2 y.2) } : Ins).put = s.put from rfl, hpf] at hp; cases hp)
        refine ⟨a, fun n => ?_⟩
        rw [b, has_cons]
        show Has s.next n ∨ (min s.x.1 y.1 ≤ n ∧ n ≤ max s.x.2 y.2) ∨ Has l n ↔ _
        have : (min s.x.1 y.1 ≤ n ∧ n ≤ max s.x.2 y.2) ↔ (s.x.1 ≤ n ∧ n ≤ s.x.2) ∨ (y.1 ≤ n ∧ n ≤ y.2) := by omega
        rw [this]; grind

theorem rFold_ok : ∀ (l out : List Rg), Canon out → Canon (l.foldl rStep out) ∧ ∀ n, Has (l.foldl rStep out) n ↔ Has out n ∨ (1 ≤ n ∧ Has l n)
  | [], out, h => ⟨h, fun n => by simp [has_nil]⟩
  | x :: l, out, h => by
    have hs : Canon (rStep out x) ∧ ∀ n, Has (rStep out x) n ↔ Has out n ∨ (1 ≤ n ∧ x.1 ≤ n ∧ n ≤ x.2) := by
      unfold rStep
      by_cases hc : x.2 < max x.1 1
      · rw [if_pos hc]
        exact ⟨h, fun n => ⟨.inl, fun k => k.elim id fun k => by omega⟩⟩
      · rw [if_neg hc]
        obtain ⟨a, b⟩ := iOut_ok out ⟨(max x.1 1, x.2), [], false⟩ (by simpa using h) (by show max x.1 1 ≤ x.2; omega) (by simp) (by simp)
        refine ⟨a, fun n => ?_⟩
        rw [b]
        show Has [] n ∨ (max x.1 1 ≤ n ∧ n ≤ x.2) ∨ Has out n ↔ _
        have : (max x.1 1 ≤ n ∧ n ≤ x.2) ↔ (1 ≤ n ∧ x.1 ≤ n ∧ n ≤ x.2) := by omega
        rw [this]; simp only [has_nil]; grind
    obtain ⟨a, b⟩ := rFold_ok l (rStep out x) hs.1
    refine ⟨a, fun n => ?_⟩
    rw [List.foldl_cons, b, hs.2, has_cons]; grind

theorem rGo_ok (l : List Rg) : Canon (rGo l) ∧ ∀ n, Has (rGo l) n ↔ 1 ≤ n ∧ Has l n := by
  obtain ⟨a, b⟩ := rFold_ok l [] ⟨List.Pairwise.nil, by simp⟩
  exact ⟨a, fun n => by rw [rGo, b]; simp [has_nil]⟩

/-- The two merges are one: the program's over the sorted, clipped list, the reference's over the list as it came. -/
theorem merge_same (l m : List Rg) (h2 : ∀ x ∈ m, x.1 ≤ x.2) (h3 : m.Pairwise (fun x y => x.1 ≤ y.1)) (hh : ∀ n, Has m n ↔ 1 ≤ n ∧ Has l n) : mGo m = rGo l := by
  obtain ⟨a, b, _⟩ := mGo_ok m h2 h3
  obtain ⟨c, d⟩ := rGo_ok l
  exact canon_unique a c fun n => by rw [b, d, hh]

end Go.Proofs.YtnfabgbidkddhaaGreatDoor

namespace Go.Proofs.YtnfabgbidkddhaaGreatDoor
open Go.RowKit

/-- Block g is just the cells cs of element type t, none frozen. -/
def Blk (w : World) (g : Nat) (t : TypeId) (cs : Array Value) : Prop := w.heap[g]? = some (.cells cs t (0, 0))

/-- From w to w' only the blocks named, and new ones, have turned. -/
structure Chg (S : List Nat) (w w' : World) : Prop where
  os : w'.os = w.os
  tape : w'.tape = w.tape
  output : w'.output = w.output
  size : w.heap.size ≤ w'.heap.size
  block : ∀ k, k < w.heap.size → k ∉ S → w'.heap[k]? = w.heap[k]?

section
variable {w w' w'' : World} {g : Nat} {t : TypeId} {cs : Array Value} {S T : List Nat}

theorem Blk.lt (h : Blk w g t cs) : g < w.heap.size := by
  rcases Nat.lt_or_ge g w.heap.size with hlt | hge
  · exact hlt
  · unfold Blk at h
    rw [Array.getElem?_eq_none hge] at h
    cases h
theorem Blk.cell (h : Blk w g t cs) (i : Nat) : w.cell? ⟨g, i, none⟩ = cs[i]? := cell_of_row w g i cs t (0, 0) h
theorem Blk.frozen (h : Blk w g t cs) (i : Nat) : w.frozen? ⟨g, i, none⟩ = false := by
  unfold Blk at h
  simp [World.frozen?, h]
theorem Blk.new (w : World) (t : TypeId) (cs : Array Value) : Blk (w.alloc (.cells cs t)) w.heap.size t cs := heap_alloc_new w _
theorem Blk.heap (h : Blk w g t cs) (e : w'.heap = w.heap) : Blk w' g t cs := by
  unfold Blk at h ⊢
  rw [e]
  exact h
theorem Blk.alloc (h : Blk w g t cs) (o : Obj) : Blk (w.alloc o) g t cs := (Below.heap_alloc w o g h.lt).trans h
theorem Blk.chg (h : Blk w g t cs) (hc : Chg S w w') (hg : g ∉ S) : Blk w' g t cs := (hc.block g h.lt hg).trans h
theorem Blk.below {B : Nat} (h : Blk w g t cs) (hb : Below B w w') (hg : g < B) : Blk w' g t cs := (hb.block g hg).trans h
theorem Blk.set (h : Blk w g t cs) (i : Nat) (u : Value) : Blk (w.setCell ⟨g, i, none⟩ u) g t (cs.setIfInBounds i u) := by
  unfold Blk at h ⊢
  simp [World.setCell, Array.getElem?_modify, h]
theorem Blk.far (h : Blk w g t cs) {p : Addr} (hp : g ≠ p.block) (u : Value) : Blk (w.setCell p u) g t cs := (Below.heap_setCell w p u g hp).trans h
theorem Blk.inj {t' : TypeId} {cs' : Array Value} (h : Blk w g t cs) (h' : Blk w g t' cs') : t = t' ∧ cs = cs' := by
  unfold Blk at h h'
  rw [h] at h'
  simp only [Option.some.injEq, Obj.cells.injEq, and_true] at h'
  exact ⟨h'.2, h'.1⟩
theorem Blk.ne {g' : Nat} {t' : TypeId} {cs' : Array Value} (h : Blk w g t cs) (h' : Blk w g' t' cs') (hne : t ≠ t') : g ≠ g' := by
  rintro rfl
  exact hne (h.inj h').1

theorem Chg.refl (S : List Nat) (w : World) : Chg S w w := ⟨rfl, rfl, rfl, Nat.le_refl _, fun _ _ _ => rfl⟩
theorem Chg.mono (h : Chg S w w') (hs : ∀ k ∈ S, k ∈ T ∨ w.heap.size ≤ k) : Chg T w w' :=
  ⟨h.os, h.tape, h.output, h.size, fun k hk hn => h.block k hk (fun hm => by
    rcases hs k hm with h1 | h1
    · exact hn h1
    · omega)⟩
theorem Chg.trans (h : Chg S w w') (k : Chg T w' w'') (hs : ∀ i ∈ T, i ∈ S ∨ w.heap.size ≤ i) : Chg S w w'' :=
  ⟨k.os.trans h.os, k.tape.trans h.tape, k.output.trans h.output, Nat.le_trans h.size k.size, fun i hi hn =>
    (k.block i (Nat.lt_of_lt_of_le hi h.size) (fun hm => by
      rcases hs i hm with h1 | h1
      · exact hn h1
      · omega)).trans (h.block i hi hn)⟩
theorem Chg.alloc (h : Chg S w w') (o : Obj) : Chg S w (w'.alloc o) :=
  ⟨h.os, h.tape, h.output, Nat.le_trans h.size (by simp), fun k hk hn => (Below.heap_alloc w' o k (Nat.lt_of_lt_of_le hk h.size)).trans (h.block k hk hn)⟩
theorem Chg.heap (h : Chg S w w') (e : w''.heap = w'.heap) (e1 : w''.os = w'.os) (e2 : w''.tape = w'.tape) (e3 : w''.output = w'.output) : Chg S w w'' :=
  ⟨e1.trans h.os, e2.trans h.tape, e3.trans h.output, by rw [e]; exact h.size, fun k hk hn => by rw [e]; exact h.block k hk hn⟩
theorem Chg.drewN (h : Chg S w w') (n : Nat) : Chg S w (w'.drewN n) := h.heap rfl rfl rfl rfl
theorem Chg.drew (h : Chg S w w') : Chg S w w'.drew := h.heap rfl rfl rfl rfl
theorem Chg.set (h : Chg S w w') {p : Addr} (hp : p.block ∈ S ∨ w.heap.size ≤ p.block) (u : Value) : Chg S w (w'.setCell p u) :=
  ⟨h.os, h.tape, h.output, by simpa [World.setCell] using h.size, fun k hk hn => (Below.heap_setCell w' p u k (by
    rintro rfl
    rcases hp with hp | hp
    · exact hn hp
    · omega)).trans (h.block k hk hn)⟩
theorem Chg.of_below (h : Below w.heap.size w w') (S : List Nat) : Chg S w w' := ⟨h.os, h.tape, h.output, h.size, fun k hk _ => h.block k hk⟩
theorem Chg.of_grown {row : Option Nat} (h : w.grownBy w' row) : Chg row.toList w w' :=
  ⟨h.os, h.tape, h.output, h.size, fun k hk hn => h.block k hk (fun e => hn (by rw [← e]; simp))⟩
theorem Chg.cell (h : Chg S w w') {p : Addr} (hlt : p.block < w.heap.size) (hp : p.block ∉ S) : w'.cell? p = w.cell? p := World.cell?_of_block (h.block p.block hlt hp)
theorem Chg.frozen (h : Chg S w w') {p : Addr} (hlt : p.block < w.heap.size) (hp : p.block ∉ S) : w'.frozen? p = w.frozen? p := World.frozen?_of_block (h.block p.block hlt hp)
/-- Where all that has turned is of the call's own. -/
theorem Chg.below {B : Nat} (h : Chg S w w') (hb : B ≤ w.heap.size) (hs : ∀ k ∈ S, B ≤ k) : Below B w w' :=
  ⟨h.os, h.tape, h.output, h.size, fun k hk => h.block k (by omega) (fun hm => by have := hs k hm; omega)⟩

/-- The value v is a slice of n elements of type e (size cells each) that are the cells xs, in a block h of which all that lies behind them up to the capacity is there, none frozen; nil: h = none. -/
def Sl (w : World) (e : TypeId) (size : Nat) (v : Value) (h : Option Nat) (n : Nat) (xs : List Value) : Prop :=
  xs.length = n * size ∧
  ((h = none ∧ v = .slice none 0 0 ∧ n = 0) ∨
   ∃ b off cap cur, h = some b ∧ v = .slice (some ⟨b, off, none⟩) n cap ∧ Blk w b e cur ∧ n ≤ cap ∧ cap ≤ maxLen ∧ off + cap * size ≤ cur.size ∧ (cur.toList.drop off).take (n * size) = xs)

variable {e : TypeId} {size n : Nat} {v : Value} {h : Option Nat} {xs : List Value}

theorem Sl.nil (w : World) (e : TypeId) (size : Nat) : Sl w e size (.slice none 0 0) none 0 [] := ⟨by simp, .inl ⟨rfl, rfl, rfl⟩⟩
theorem Sl.of_own {base : Nat} (ho : w.ownsRow base e size v n xs) : Sl w e size v v.ownBlock n xs := by
  refine ⟨ho.1, ?_⟩
  rcases ho.2 with ⟨rfl, rfl⟩ | ⟨g, cap, cur, rfl, _, hg, hn, hc, hs, ht⟩
  · exact .inl ⟨rfl, rfl, rfl⟩
  · exact .inr ⟨g, 0, cap, cur, rfl, rfl, hg, hn, hc, by omega, by simpa using ht⟩
theorem Sl.keep (hs : Sl w e size v h n xs) (hk : ∀ b, h = some b → w'.heap[b]? = w.heap[b]?) : Sl w' e size v h n xs := by
  refine ⟨hs.1, ?_⟩
  rcases hs.2 with hn | ⟨b, off, cap, cur, hh, hv, hb, r⟩
  · exact .inl hn
  · exact .inr ⟨b, off, cap, cur, hh, hv, (hk b hh).trans hb, r⟩
theorem Sl.lt (hs : Sl w e size v h n xs) : ∀ b, h = some b → b < w.heap.size := by
  intro b hb
  rcases hs.2 with ⟨hn, _⟩ | ⟨b', off, cap, cur, hh, hv, hB, _⟩
  · rw [hb] at hn
    cases hn
  · rw [hb] at hh
    obtain rfl := Option.some.inj hh
    exact hB.lt
theorem Sl.chg (hs : Sl w e size v h n xs) (hc : Chg S w w') (hn : ∀ b, h = some b → b ∉ S) : Sl w' e size v h n xs :=
  hs.keep fun b hb => hc.block b (hs.lt b hb) (hn b hb)
theorem Sl.heap (hs : Sl w e size v h n xs) (he : w'.heap = w.heap) : Sl w' e size v h n xs := hs.keep fun b _ => by rw [he]
theorem Sl.alloc (hs : Sl w e size v h n xs) (o : Obj) : Sl (w.alloc o) e size v h n xs := hs.keep fun b hb => Below.heap_alloc w o b (hs.lt b hb)
theorem Sl.far (hs : Sl w e size v h n xs) {p : Addr} (hp : h ≠ some p.block) (u : Value) : Sl (w.setCell p u) e size v h n xs :=
  hs.keep fun b hb => Below.heap_setCell w p u b (fun e => hp (by rw [hb, e]))
theorem Sl.ne_blk {g' : Nat} {t' : TypeId} {cs' : Array Value} (hs : Sl w e size v h n xs) (hb : Blk w g' t' cs') (hne : e ≠ t') : ∀ b, h = some b → b ≠ g' := by
  intro b hh
  rcases hs.2 with ⟨hn, _⟩ | ⟨b', off, cap, cur, hh', hv, hB, _⟩
  · rw [hh] at hn
    cases hn
  · rw [hh] at hh'
    obtain rfl := Option.some.inj hh'
    exact hB.ne hb hne
/-- Where there is an element: the address, and each cell. -/
theorem Sl.at_ (hs : Sl w e size v h n xs) (hn : 0 < n) : ∃ b off cap, h = some b ∧ v = .slice (some ⟨b, off, none⟩) n cap ∧ n ≤ cap ∧ cap ≤ maxLen ∧ b < w.heap.size ∧
    ∀ j, j < n * size → w.cell? ⟨b, off + j, none⟩ = xs[j]? ∧ w.frozen? ⟨b, off + j, none⟩ = false := by
  rcases hs.2 with ⟨_, _, rfl⟩ | ⟨b, off, cap, cur, hh, hv, hB, hnc, hcm, hcs, ht⟩
  · omega
  · refine ⟨b, off, cap, hh, hv, hnc, hcm, hB.lt, fun j hj => ⟨?_, hB.frozen _⟩⟩
    rw [hB.cell, ← ht, List.getElem?_take, if_pos hj, List.getElem?_drop]
    simp
/-- Its shape, empty or not. -/
theorem Sl.form (hs : Sl w e size v h n xs) : ∃ A cap, v = .slice A n cap ∧ n ≤ cap ∧ cap ≤ maxLen := by
  rcases hs.2 with ⟨_, rfl, rfl⟩ | ⟨b, off, cap, cur, _, hv, _, hnc, hcm, _⟩
  · exact ⟨none, 0, rfl, Nat.le_refl _, Nat.zero_le _⟩
  · exact ⟨_, cap, hv, hnc, hcm⟩
/-- One cell stored. -/
theorem Sl.store {b off cap : Nat} (hs : Sl w e size (.slice (some ⟨b, off, none⟩) n cap) h n xs) (j : Nat) (u : Value) :
    Sl (w.setCell ⟨b, off + j, none⟩ u) e size (.slice (some ⟨b, off, none⟩) n cap) h n (xs.set j u) := by
  refine ⟨by simpa using hs.1, ?_⟩
  rcases hs.2 with ⟨_, hv, _⟩ | ⟨b', off', cap', cur, hh, hv, hB, hnc, hcm, hcs, ht⟩
  · cases hv
  · simp only [Value.slice.injEq, Option.some.injEq, Addr.mk.injEq, and_true, true_and] at hv
    obtain ⟨⟨rfl, rfl⟩, rfl⟩ := hv
    refine .inr ⟨b, off, cap, cur.setIfInBounds (off + j) u, hh, rfl, hB.set _ u, hnc, hcm, by simpa using hcs, ?_⟩
    rw [Array.toList_setIfInBounds, ← ht, ← List.take_set, List.drop_set, if_neg (by omega), Nat.add_sub_cancel_left]
/-- 's[k:]', k below the length. -/
theorem Sl.cut {b off cap : Nat} (hs : Sl w e size (.slice (some ⟨b, off, none⟩) n cap) h n xs) (k : Nat) (hk : k < n) :
    Sl w e size (.slice (some ⟨b, off + k * size, none⟩) (n - k) (cap - k)) h (n - k) (xs.drop (k * size)) := by
  refine ⟨by rw [List.length_drop, hs.1, Nat.sub_mul], ?_⟩
  rcases hs.2 with ⟨_, hv, _⟩ | ⟨b', off', cap', cur, hh, hv, hB, hnc, hcm, hcs, ht⟩
  · cases hv
  · simp only [Value.slice.injEq, Option.some.injEq, Addr.mk.injEq, and_true, true_and] at hv
    obtain ⟨⟨rfl, rfl⟩, rfl⟩ := hv
    refine .inr ⟨b, off + k * size, cap - k, cur, hh, rfl, hB, by omega, by omega, ?_, ?_⟩
    · have : (cap - k) * size = cap * size - k * size := Nat.sub_mul _ _ _
      have h2 : k * size ≤ cap * size := Nat.mul_le_mul_right _ (by omega)
      omega
    · rw [← ht, List.drop_take, List.drop_drop, Nat.sub_mul]
end

/-- The value v is a slice of n elements (size cells each) that read as the cells xs, in a block that is none of S; nil, or empty at whatever address. -/
def RdS (w : World) (S : List Nat) (size : Nat) (v : Value) (n : Nat) (xs : List Value) : Prop :=
  xs.length = n * size ∧ ((v = .slice none 0 0 ∧ n = 0) ∨
    ∃ (a : Addr) (cap : Nat), v = .slice (some a) n cap ∧ n ≤ cap ∧ cap ≤ maxLen ∧ (0 < n → a.spot = none ∧ a.block < w.heap.size ∧ a.block ∉ S ∧ ∀ j, j < n * size → w.cell? ⟨a.block, a.off + j, none⟩ = xs[j]?))

theorem Sl.reads {w : World} {e : TypeId} {size n : Nat} {v : Value} {h : Option Nat} {xs : List Value} (hs : Sl w e size v h n xs) (S : List Nat) (hS : ∀ b, h = some b → b ∉ S) : RdS w S size v n xs := by
  refine ⟨hs.1, ?_⟩
  rcases hs.2 with ⟨_, rfl, rfl⟩ | ⟨b, off, cap, cur, hh, rfl, hB, hnc, hcm, hcs, ht⟩
  · exact .inl ⟨rfl, rfl⟩
  · refine .inr ⟨_, cap, rfl, hnc, hcm, fun hn => ⟨rfl, hB.lt, hS b hh, fun j hj => ?_⟩⟩
    obtain ⟨b', off', cap', _, hv, _, _, _, hat⟩ := hs.at_ hn
    injection hv with hv1
    injection hv1 with hv2
    injection hv2 with hv3 hv4
    subst hv3
    subst hv4
    exact (hat j hj).1
theorem RdS.keep {w w' : World} {S T : List Nat} {size n : Nat} {v : Value} {xs : List Value} (h : RdS w S size v n xs) (hsz : w.heap.size ≤ w'.heap.size) (hk : ∀ b, b < w.heap.size → b ∉ S → w'.heap[b]? = w.heap[b]?) (hT : ∀ b, b < w.heap.size → b ∉ S → b ∉ T) : RdS w' T size v n xs := by
  refine ⟨h.1, ?_⟩
  rcases h.2 with h0 | ⟨a, cap, hv, h1, h2, h3⟩
  · exact .inl h0
  · refine .inr ⟨a, cap, hv, h1, h2, fun hn => ?_⟩
    obtain ⟨r1, r2, r3, r4⟩ := h3 hn
    refine ⟨r1, by omega, hT _ r2 r3, fun j hj => ?_⟩
    rw [← r4 j hj]
    exact World.cell?_of_block (hk a.block r2 r3)
theorem RdS.chg {w w' : World} {S : List Nat} {size n : Nat} {v : Value} {xs : List Value} (h : RdS w S size v n xs) (hc : Chg S w w') : RdS w' S size v n xs :=
  h.keep hc.size hc.block (fun _ _ h => h)
theorem RdS.below {w w' : World} {S : List Nat} {size n : Nat} {v : Value} {xs : List Value} (h : RdS w S size v n xs) (hc : Below w.heap.size w w') : RdS w' S size v n xs :=
  h.keep hc.size (fun b hb _ => hc.block b hb) (fun _ _ h => h)
theorem RdS.sub {w : World} {S T : List Nat} {size n : Nat} {v : Value} {xs : List Value} (h : RdS w S size v n xs) (hT : ∀ b, b < w.heap.size → b ∉ S → b ∉ T) : RdS w T size v n xs :=
  h.keep (Nat.le_refl _) (fun _ _ _ => rfl) hT
/-- Where there is an element. -/
theorem RdS.at_ {w : World} {S : List Nat} {size n : Nat} {v : Value} {xs : List Value} (h : RdS w S size v n xs) (hn : 0 < n) :
    ∃ b off cap, v = .slice (some ⟨b, off, none⟩) n cap ∧ n ≤ cap ∧ cap ≤ maxLen ∧ b < w.heap.size ∧ b ∉ S ∧ ∀ j, j < n * size → w.cell? ⟨b, off + j, none⟩ = xs[j]? := by
  rcases h.2 with ⟨_, h0⟩ | ⟨⟨b, off, sp⟩, cap, hv, h1, h2, h3⟩
  · omega
  · obtain ⟨r1, r2, r3, r4⟩ := h3 hn
    simp only at r1 r2 r3 r4
    subst r1
    exact ⟨b, off, cap, hv, h1, h2, r2, r3, r4⟩
theorem RdS.form {w : World} {S : List Nat} {size n : Nat} {v : Value} {xs : List Value} (h : RdS w S size v n xs) : ∃ A cap, v = .slice A n cap ∧ n ≤ cap ∧ cap ≤ maxLen := by
  rcases h.2 with ⟨rfl, rfl⟩ | ⟨a, cap, hv, h1, h2, _⟩
  · exact ⟨none, 0, rfl, Nat.le_refl _, Nat.zero_le _⟩
  · exact ⟨some a, cap, hv, h1, h2⟩

section
variable {P : Program} (w : World)

theorem heap_setCells (b : Nat) (e : TypeId) : ∀ (vs : List Value) (o : Nat) (w : World) (cur : Array Value), Blk w b e cur → o + vs.length ≤ cur.size →
    Blk (w.setCells b o vs) b e ((cur.toList.take o ++ vs ++ cur.toList.drop (o + vs.length)).toArray)
  | [], o, w, cur, h, _ => by
    simp only [World.setCells, List.append_nil, List.length_nil, Nat.add_zero, List.take_append_drop]
    exact h
  | v :: r, o, w, cur, h, hl => by
    simp only [List.length_cons] at hl
    have ih := heap_setCells b e r (o + 1) (w.setCell ⟨b, o, none⟩ v) (cur.setIfInBounds o v) (h.set o v) (by simp; omega)
    have he : (cur.setIfInBounds o v).toList.take (o + 1) ++ r ++ (cur.setIfInBounds o v).toList.drop (o + 1 + r.length) = cur.toList.take o ++ (v :: r) ++ cur.toList.drop (o + (v :: r).length) := by
      rw [Array.toList_setIfInBounds, List.drop_set_of_lt (by omega)]
      have ho : o < cur.toList.length := by simp; omega
      have ht : (cur.toList.set o v).take (o + 1) = cur.toList.take o ++ [v] := by
        rw [List.take_succ_eq_append_getElem (by simpa using ho), List.take_set_of_le (Nat.le_refl _)]
        simp
      rw [ht]
      simp only [List.append_assoc, List.cons_append, List.nil_append, List.length_cons]
      rw [show o + 1 + r.length = o + (r.length + 1) from by omega]
    rw [he] at ih
    exact ih

theorem setCells_far (b : Nat) : ∀ (vs : List Value) (o : Nat) (w : World) (k : Nat), k ≠ b → (w.setCells b o vs).heap[k]? = w.heap[k]?
  | [], _, _, _, _ => rfl
  | v :: r, o, w, k, hk => by
    rw [World.setCells, setCells_far b r (o + 1) _ k hk]
    exact Below.heap_setCell w ⟨b, o, none⟩ v k hk
theorem setCells_same (b : Nat) : ∀ (vs : List Value) (o : Nat) (w : World), (w.setCells b o vs).os = w.os ∧ (w.setCells b o vs).tape = w.tape ∧ (w.setCells b o vs).output = w.output ∧ (w.setCells b o vs).heap.size = w.heap.size
  | [], _, _ => ⟨rfl, rfl, rfl, rfl⟩
  | v :: r, o, w => by
    obtain ⟨h1, h2, h3, h4⟩ := setCells_same b r (o + 1) (w.setCell ⟨b, o, none⟩ v)
    exact ⟨h1, h2, h3, h4.trans (by simp [World.setCell])⟩

/-- append onto such a slice, something is appended. -/
theorem run_append_sl {t ty e : TypeId} {i : TypeInfo} {z : Value} {size bytes : Nat} (ht : P.underlying t = some (.slice e)) (hi : P.info? e = some i) (hz : i.zero = some z)
    (hsize : i.size = size) (hby : i.bytes = bytes) (hzs : z.cells.size = size) (hsz : 0 < size)
    {v : Value} {h : Option Nat} {n : Nat} {xs : List Value} (hs : Sl w e size v h n xs)
    (a : Addr) (m c : Nat) (news : List Value) (hl : news.length = m * size) (hnews : ∀ j u, news[j]? = some u → w.cell? (a.add j) = some u) (h1 : ∀ u ∈ news, u.oneCell' = true)
    (h63 : n + m ≤ maxLen) (hbytes : (n + m) * bytes ≤ 140737488355328) :
    ∃ v' h' w', (Builtin.append_ #[t, t] ty #[v, .slice (some a) m c]).run P w = .ok v' w' ∧ Sl w' e size v' h' (n + m) (xs ++ news) ∧ Chg h.toList w w' ∧ (h' = h ∨ ∃ g, h' = some g ∧ w.heap.size ≤ g) := by
  rcases hs.2 with ⟨rfl, rfl, rfl⟩ | ⟨b, off, cap, cur, rfl, rfl, hB, hnc, hcm, hcs, htake⟩
  · have hx : xs = [] := List.eq_nil_of_length_eq_zero (by simpa using hs.1)
    subst hx
    obtain ⟨v', w', hr, hown, hg, _⟩ := run_append_own (P := P) w w.heap.size t ty e i z size bytes ht hi hz hsize hby hzs hsz (.slice none 0 0) 0 [] (World.ownsRow_nil w _ e size) a m c news hl hnews h1 (by omega) (by simpa using hbytes) (Nat.le_refl _)
    refine ⟨v', v'.ownBlock, w', hr, Sl.of_own hown, Chg.of_grown hg, ?_⟩
    cases hv : v'.ownBlock with
    | none => exact .inl rfl
    | some k => exact .inr ⟨k, rfl, (hown.lt k hv).1⟩
  · by_cases hroom : n + m ≤ cap
    · have hmul : (n + m) * size ≤ cap * size := Nat.mul_le_mul_right _ hroom
      have hadd : (n + m) * size = n * size + m * size := Nat.add_mul _ _ _
      subst hsize
      have hr := run_append_room_cells (P := P) w t ty e i ht hi b off n cap a m c news hl hnews h1 hroom (fun j hj => by
          rw [hB.cell]
          rw [Array.getElem?_eq_getElem (show off + n * i.size + j < cur.size by omega)]
          rfl) (fun j _ => hB.frozen _)
      have hB2 := heap_setCells b e news (off + n * i.size) w cur hB (by omega)
      obtain ⟨s1, s2, s3, s4⟩ := setCells_same b news (off + n * i.size) w
      refine ⟨_, some b, _, hr, ⟨by rw [List.length_append, hs.1, hl, hadd], .inr ⟨b, off, cap, _, rfl, rfl, hB2, hroom, hcm, ?_, ?_⟩⟩, ⟨s1, s2, s3, by rw [s4]; exact Nat.le_refl _, fun k _ hk => setCells_far b news _ w k (by simpa using hk)⟩, .inl rfl⟩
      · simp only [List.size_toArray, List.length_append, List.length_take, List.length_drop, Array.length_toList]
        omega
      · have hlen : (cur.toList.take (off + n * i.size)).length = off + n * i.size := by
          rw [List.length_take, Array.length_toList]
          omega
        show (List.drop off (cur.toList.take (off + n * i.size) ++ news ++ cur.toList.drop (off + n * i.size + news.length))).take ((n + m) * i.size) = xs ++ news
        rw [List.append_assoc, List.drop_append_of_le_length (by omega), List.drop_take, Nat.add_sub_cancel_left, htake, ← List.append_assoc]
        rw [List.take_append_of_le_length (by rw [List.length_append, hs.1, hl]; omega)]
        exact List.take_of_length_le (by rw [List.length_append, hs.1, hl]; omega)
    · obtain ⟨v', w', hr, hown, hg⟩ := run_append_arg_grows (P := P) w t ty e i z size bytes ht hi hz hsize hby hzs hsz ⟨b, off, none⟩ n cap xs hs.1 (fun j u hu => by
          have hj : j < n * size := by have := (List.getElem?_eq_some_iff.1 hu).1; rw [hs.1] at this; exact this
          rw [Addr.add_lit, hB.cell]
          rw [← htake, List.getElem?_take, if_pos hj, List.getElem?_drop] at hu
          simpa using hu) a m c news hl hnews (by omega) h63 hbytes
      refine ⟨v', v'.ownBlock, w', hr, Sl.of_own hown, (Chg.of_grown hg).mono (by simp), ?_⟩
      cases hv : v'.ownBlock with
      | none =>
        rcases hown.2 with ⟨_, h0⟩ | ⟨g, cap', cur', hv', _⟩
        · omega
        · rw [hv'] at hv
          simp [Value.ownBlock] at hv
      | some k => exact .inr ⟨k, rfl, (hown.lt k hv).1⟩

/-- .. in a walk: the source has just been laid in a block of its own. -/
theorem wpList_append_sl {W : World} {cs : Array Value} {e' : TypeId} {ops : Array Oper} {rest : List Oper} {o : Oper} {a : Act} {Q : Exit → Act → World → Prop}
    (hgd : o.guard = none) (s x : Operand) (t : TypeId)
    (ho : o.op = .call { callee := .builtin .append, args := #[s, x], argTypes := #[t, t] })
    {e : TypeId} {i : TypeInfo} {z : Value} {size bytes : Nat} (ht : P.underlying t = some (.slice e)) (hi : P.info? e = some i) (hz : i.zero = some z)
    (hsize : i.size = size) (hby : i.bytes = bytes) (hzs : z.cells.size = size) (hsz : 0 < size)
    {v : Value} {h : Option Nat} {n : Nat} {xs : List Value} (hsl : Sl W e size v h n xs) (hs : a.eval s = v)
    (m c : Nat) (hx : a.eval x = .slice (some ⟨W.heap.size, 0, none⟩) m c) (hl : cs.toList.length = m * size) (h1 : ∀ u ∈ cs.toList, u.oneCell' = true)
    (h63 : n + m ≤ maxLen) (hbytes : (n + m) * bytes ≤ 140737488355328)
    (hk : ∀ v' h' w', Sl w' e size v' h' (n + m) (xs ++ cs.toList) → Chg h.toList W w' → (h' = h ∨ ∃ g, h' = some g ∧ W.heap.size ≤ g) → wpList P ops Q rest (a.put o.dst v') w') :
    wpList P ops Q (o :: rest) a (W.alloc (.cells cs e')) := by
  refine wpList_plain hgd fun K hK' => ?_
  obtain ⟨v', h', w', hr, r1, r2, r3⟩ := run_append_sl (P := P) (W.alloc (.cells cs e')) (ty := o.type) ht hi hz hsize hby hzs hsz (hsl.alloc _) ⟨W.heap.size, 0, none⟩ m c cs.toList hl (fun j u hj => by
    rw [Addr.add_zero_off, World.cell?_alloc_at _ _ _ _ rfl]
    simpa using hj) h1 h63 hbytes
  unfold Oper.wp execOp
  simp only [ho, resolve, invoke, builtin, Sem.run_bind, Sem.run_pure, Result.andThen_ok, List.map_toArray, List.map_cons, List.map_nil, hs, hx, hr]
  refine hK' _ _ (hk v' h' w' r1 ⟨r2.os, r2.tape, r2.output, Nat.le_trans (by simp) r2.size, fun k hk hn => (r2.block k (by simp; omega) hn).trans (Below.heap_alloc _ _ _ hk)⟩ ?_)
  rcases r3 with h2 | ⟨g, h2, h3⟩
  · exact .inl h2
  · exact .inr ⟨g, h2, by simp at h3; omega⟩

/-- .. at whatever world, at a single operation. -/
theorem wp_append_slG {o : Oper} {a : Act} {K : Act → World → Prop} {Q : Exit → Act → World → Prop} (s x : Operand) (t : TypeId)
    (ho : o.op = .call { callee := .builtin .append, args := #[s, x], argTypes := #[t, t] })
    {e : TypeId} {i : TypeInfo} {z : Value} {size bytes : Nat} (ht : P.underlying t = some (.slice e)) (hi : P.info? e = some i) (hz : i.zero = some z)
    (hsize : i.size = size) (hby : i.bytes = bytes) (hzs : z.cells.size = size) (hsz : 0 < size)
    {v : Value} {h : Option Nat} {n : Nat} {xs : List Value} (hsl : Sl w e size v h n xs) (hs : a.eval s = v)
    (gB : Nat) (cs : Array Value) {e' : TypeId} {fr : Nat × Nat} (hB : w.heap[gB]? = some (.cells cs e' fr))
    (m c : Nat) (hx : a.eval x = .slice (some ⟨gB, 0, none⟩) m c) (hl : cs.toList.length = m * size) (h1 : ∀ u ∈ cs.toList, u.oneCell' = true)
    (h63 : n + m ≤ maxLen) (hbytes : (n + m) * bytes ≤ 140737488355328)
    (hk : ∀ v' h' w', Sl w' e size v' h' (n + m) (xs ++ cs.toList) → Chg h.toList w w' → (h' = h ∨ ∃ g, h' = some g ∧ w.heap.size ≤ g) → K (a.put o.dst v') w') :
    o.wp P a w K Q := by
  obtain ⟨v', h', w', hr, r1, r2, r3⟩ := run_append_sl (P := P) w (ty := o.type) ht hi hz hsize hby hzs hsz hsl ⟨gB, 0, none⟩ m c cs.toList hl (fun j u hj => by
    rw [Addr.add_zero_off, cell_of_row w gB j cs e' fr hB]
    simpa using hj) h1 h63 hbytes
  unfold Oper.wp execOp
  simp only [ho, resolve, invoke, builtin, Sem.run_bind, Sem.run_pure, Result.andThen_ok, List.map_toArray, List.map_cons, List.map_nil, hs, hx, hr]
  exact hk v' h' w' r1 r2 r3

/-- .. at a step of a region that draws its order. -/
theorem step_append_sl {ops : Array Oper} {o : Oper} {a : Act} {K : Act → World → Prop} {Q : Exit → Act → World → Prop} {E : Prop} (hgd : o.guard = none) (s x : Operand) (t : TypeId)
    (ho : o.op = .call { callee := .builtin .append, args := #[s, x], argTypes := #[t, t] })
    {e : TypeId} {i : TypeInfo} {z : Value} {size bytes : Nat} (ht : P.underlying t = some (.slice e)) (hi : P.info? e = some i) (hz : i.zero = some z)
    (hsize : i.size = size) (hby : i.bytes = bytes) (hzs : z.cells.size = size) (hsz : 0 < size)
    {v : Value} {h : Option Nat} {n : Nat} {xs : List Value} (hsl : Sl w e size v h n xs) (hs : a.eval s = v)
    (gB : Nat) (cs : Array Value) {e' : TypeId} {fr : Nat × Nat} (hB : w.heap[gB]? = some (.cells cs e' fr))
    (m c : Nat) (hx : a.eval x = .slice (some ⟨gB, 0, none⟩) m c) (hl : cs.toList.length = m * size) (h1 : ∀ u ∈ cs.toList, u.oneCell' = true)
    (h63 : n + m ≤ maxLen) (hbytes : (n + m) * bytes ≤ 140737488355328)
    (hk : ∀ v' h' w', Sl w' e size v' h' (n + m) (xs ++ cs.toList) → Chg h.toList w w' → (h' = h ∨ ∃ g, h' = some g ∧ w.heap.size ≤ g) → K (a.put o.dst v') w') :
    if Region.wanted o (yielded ops a.tmps) = true then Oper.wp P o a w K Q else E := by
  have hw : Region.wanted o (yielded ops a.tmps) = true := by simp [Region.wanted, hgd]
  rw [if_pos hw]
  exact wp_append_slG w s x t ho ht hi hz hsize hby hzs hsz hsl hs gB cs hB m c hx hl h1 h63 hbytes hk

/-- .. whatever the source. -/
theorem wpList_append_slA {ops : Array Oper} {rest : List Oper} {o : Oper} {a : Act} {Q : Exit → Act → World → Prop} (hgd : o.guard = none) (s x : Operand) (t : TypeId)
    (ho : o.op = .call { callee := .builtin .append, args := #[s, x], argTypes := #[t, t] })
    {e : TypeId} {i : TypeInfo} {z : Value} {size bytes : Nat} (ht : P.underlying t = some (.slice e)) (hi : P.info? e = some i) (hz : i.zero = some z)
    (hsize : i.size = size) (hby : i.bytes = bytes) (hzs : z.cells.size = size) (hsz : 0 < size)
    {v : Value} {h : Option Nat} {n : Nat} {xs : List Value} (hsl : Sl w e size v h n xs) (hs : a.eval s = v)
    (ad : Addr) (m c : Nat) (news : List Value) (hx : a.eval x = .slice (some ad) m c) (hl : news.length = m * size) (hnews : ∀ j u, news[j]? = some u → w.cell? (ad.add j) = some u) (h1 : ∀ u ∈ news, u.oneCell' = true)
    (h63 : n + m ≤ maxLen) (hbytes : (n + m) * bytes ≤ 140737488355328)
    (hk : ∀ v' h' w', Sl w' e size v' h' (n + m) (xs ++ news) → Chg h.toList w w' → (h' = h ∨ ∃ g, h' = some g ∧ w.heap.size ≤ g) → wpList P ops Q rest (a.put o.dst v') w') :
    wpList P ops Q (o :: rest) a w := by
  refine wpList_plain hgd fun K hK => ?_
  obtain ⟨v', h', w', hr, r1, r2, r3⟩ := run_append_sl (P := P) w (ty := o.type) ht hi hz hsize hby hzs hsz hsl ad m c news hl hnews h1 h63 hbytes
  unfold Oper.wp execOp
  simp only [ho, resolve, invoke, builtin, Sem.run_bind, Sem.run_pure, Result.andThen_ok, List.map_toArray, List.map_cons, List.map_nil, hs, hx, hr]
  exact hK _ _ (hk v' h' w' r1 r2 r3)

theorem wpList_append_slG {ops : Array Oper} {rest : List Oper} {o : Oper} {a : Act} {Q : Exit → Act → World → Prop} (hgd : o.guard = none) (s x : Operand) (t : TypeId)
    (ho : o.op = .call { callee := .builtin .append, args := #[s, x], argTypes := #[t, t] })
    {e : TypeId} {i : TypeInfo} {z : Value} {size bytes : Nat} (ht : P.underlying t = some (.slice e)) (hi : P.info? e = some i) (hz : i.zero = some z)
    (hsize : i.size = size) (hby : i.bytes = bytes) (hzs : z.cells.size = size) (hsz : 0 < size)
    {v : Value} {h : Option Nat} {n : Nat} {xs : List Value} (hsl : Sl w e size v h n xs) (hs : a.eval s = v)
    (gB : Nat) (cs : Array Value) {e' : TypeId} {fr : Nat × Nat} (hB : w.heap[gB]? = some (.cells cs e' fr))
    (m c : Nat) (hx : a.eval x = .slice (some ⟨gB, 0, none⟩) m c) (hl : cs.toList.length = m * size) (h1 : ∀ u ∈ cs.toList, u.oneCell' = true)
    (h63 : n + m ≤ maxLen) (hbytes : (n + m) * bytes ≤ 140737488355328)
    (hk : ∀ v' h' w', Sl w' e size v' h' (n + m) (xs ++ cs.toList) → Chg h.toList w w' → (h' = h ∨ ∃ g, h' = some g ∧ w.heap.size ≤ g) → wpList P ops Q rest (a.put o.dst v') w') :
    wpList P ops Q (o :: rest) a w :=
  wpList_plain hgd fun _ hK => wp_append_slG w s x t ho ht hi hz hsize hby hzs hsz hsl hs gB cs hB m c hx hl h1 h63 hbytes fun v' h' w' r1 r2 r3 => hK _ _ (hk v' h' w' r1 r2 r3)
/-- 'append' in a walk: the source has just been laid in a block of its own, number X. -/
theorem wpList_append_slX {W : World} {cs : Array Value} {e' : TypeId} {ops : Array Oper} {rest : List Oper} {o : Oper} {a : Act} {Q : Exit → Act → World → Prop}
    (hgd : o.guard = none) (s x : Operand) (t : TypeId)
    (ho : o.op = .call { callee := .builtin .append, args := #[s, x], argTypes := #[t, t] })
    {e : TypeId} {i : TypeInfo} {z : Value} {size bytes : Nat} (ht : P.underlying t = some (.slice e)) (hi : P.info? e = some i) (hz : i.zero = some z)
    (hsize : i.size = size) (hby : i.bytes = bytes) (hzs : z.cells.size = size) (hsz : 0 < size)
    {v : Value} {h : Option Nat} {n : Nat} {xs : List Value} (hsl : Sl W e size v h n xs) (hs : a.eval s = v) (X : Nat) (hX : W.heap.size = X)
    (m c : Nat) (hx : a.eval x = .slice (some ⟨X, 0, none⟩) m c) (hl : cs.toList.length = m * size) (h1 : ∀ u ∈ cs.toList, u.oneCell' = true)
    (h63 : n + m ≤ maxLen) (hbytes : (n + m) * bytes ≤ 140737488355328)
    (hk : ∀ v' h' w', Sl w' e size v' h' (n + m) (xs ++ cs.toList) → Chg h.toList W w' → (h' = h ∨ ∃ g, h' = some g ∧ W.heap.size ≤ g) → wpList P ops Q rest (a.put o.dst v') w') :
    wpList P ops Q (o :: rest) a (W.alloc (.cells cs e')) := by
  subst hX
  exact wpList_append_sl hgd s x t ho ht hi hz hsize hby hzs hsz hsl hs m c hx hl h1 h63 hbytes hk
end

end Go.Proofs.YtnfabgbidkddhaaGreatDoor

namespace Go.Proofs.YtnfabgbidkddhaaGreatDoor
open Go.Shelf Go.RowKit Go.Lib Go.Sort
attribute [local go_sem ↓] Go.wp_at_zero Go.wp_at_succ

set_option maxRecDepth 100000 in
theorem cmp_any (x y : Int) (w : World) : Calls Tryz.prog 104 #[.int .i64 x, .int .i64 y] w fun e w' => e = .returned (.int .i64 (Lib.compareInt x y)) ∧ w = w' := by
  obtain ⟨r, hr⟩ : ∃ r, Lib.compareInt x y = r := ⟨_, rfl⟩
  rw [hr]
  have HR := Lib.hid hr
  clear hr
  by_cases h1 : x < y
  · have hr2 : r = -1 := by rw [← HR.out]; exact if_pos h1
    subst hr2
    clear HR
    go_enter Tryz.func104, Tryz.ntmps104
    go_wp2
    go_ret
    exact ⟨rfl, rfl⟩
  · by_cases h2 : y < x
    · have hr2 : r = 1 := by rw [← HR.out]; unfold Lib.compareInt; rw [if_neg h1, if_pos h2]
      subst hr2
      clear HR
      go_enter Tryz.func104, Tryz.ntmps104
      go_wp2
      go_ret
      exact ⟨rfl, rfl⟩
    · have hr2 : r = 0 := by rw [← HR.out]; unfold Lib.compareInt; rw [if_neg h1, if_neg h2]
      subst hr2
      clear HR
      go_enter Tryz.func104, Tryz.ntmps104
      go_wp2
      go_ret
      exact ⟨rfl, rfl⟩

def orI (x y : Int) : Int := if x = 0 then y else x

set_option maxRecDepth 100000 in
theorem or_any (x y : Int) (b : Nat) (w : World) (h0 : w.cell? ⟨b, 0, none⟩ = some (.int .i64 x)) (h1 : w.cell? ⟨b, 1, none⟩ = some (.int .i64 y)) :
    Calls Tryz.prog 103 #[.slice (some ⟨b, 0, none⟩) 2 2] w fun e w' => e = .returned (.int .i64 (orI x y)) ∧ w = w' := by
  obtain ⟨r, hr⟩ : ∃ r, orI x y = r := ⟨_, rfl⟩
  rw [hr]
  unfold orI at hr
  have HR := Lib.hid hr
  clear hr
  by_cases hx : x = 0
  · subst hx
    have hr2 : r = y := by rw [← HR.out]; exact if_pos rfl
    subst hr2
    clear HR
    by_cases hy : r = 0
    · subst hy
      go_enter Tryz.func103, Tryz.ntmps103
      go_wp2
      refine wp_loop_rounds 3 ?_
      rw [rounds_succ]
      go_wp2
      try (rw [rounds_succ]; go_wp2)
      try (rw [rounds_succ]; go_wp2)
      go_ret
      exact ⟨rfl, rfl⟩
    · go_enter Tryz.func103, Tryz.ntmps103
      go_wp2
      refine wp_loop_rounds 3 ?_
      rw [rounds_succ]
      go_wp2
      try (rw [rounds_succ]; go_wp2)
      try (rw [rounds_succ]; go_wp2)
      go_ret
      exact ⟨rfl, rfl⟩
  · have hr2 : r = x := by rw [← HR.out]; exact if_neg hx
    subst hr2
    clear HR
    go_enter Tryz.func103, Tryz.ntmps103
    go_wp2
    refine wp_loop_rounds 3 ?_
    rw [rounds_succ]
    go_wp2
    try (rw [rounds_succ]; go_wp2)
    try (rw [rounds_succ]; go_wp2)
    go_ret
    exact ⟨rfl, rfl⟩

/-- A range's two cells; by what they are sorted. -/
def encR (x : Rg) : List Value := [.int .i64 x.1, .int .i64 x.2]
def cfR (x y : Rg) : Int := orI (Lib.compareInt x.1 y.1) (Lib.compareInt x.2 y.2)

set_option maxRecDepth 100000 in
set_option maxHeartbeats 1000000 in
theorem closure_any (x y : Rg) (W : World) : Calls Tryz.prog 102 #[.agg #[.int .i64 x.1, .int .i64 x.2], .agg #[.int .i64 y.1, .int .i64 y.2]] W fun e w' => e = .returned (.int .i64 (cfR x y)) ∧ ∃ q os', w' = grow (W.drewN q) os' := by
  obtain ⟨x1, x2⟩ := x
  obtain ⟨y1, y2⟩ := y
  have hc := fun a b W => cmp_any a b W
  unfold cfR
  simp only
  obtain ⟨r1, hr1⟩ : ∃ r, Lib.compareInt x1 y1 = r := ⟨_, rfl⟩
  obtain ⟨r2, hr2⟩ : ∃ r, Lib.compareInt x2 y2 = r := ⟨_, rfl⟩
  have hc1 := fun W => cmp_any x1 y1 W
  have hc2 := fun W => cmp_any x2 y2 W
  rw [hr1] at hc1 ⊢
  rw [hr2] at hc2 ⊢
  clear hr1 hr2 hc
  have ho : ∀ W', W'.heap = (((W.alloc (.cells #[.int .i64 x1, .int .i64 x2] 75)).alloc (.cells #[.int .i64 y1, .int .i64 y2] 75)).alloc (.cells #[.int .i64 r1, .int .i64 r2] 3)).heap →
      Calls Tryz.prog 103 #[.slice (some ⟨W.heap.size + 1 + 1, 0, none⟩) 2 2] W' fun e w' => e = .returned (.int .i64 (orI r1 r2)) ∧ W' = w' := fun W' e => by
    have h := (Blk.new ((W.alloc (.cells #[.int .i64 x1, .int .i64 x2] 75)).alloc (.cells #[.int .i64 y1, .int .i64 y2] 75)) 3 #[.int .i64 r1, .int .i64 r2]).heap e
    have h2 : Blk W' (W.heap.size + 1 + 1) 3 #[.int .i64 r1, .int .i64 r2] := by simpa using h
    exact or_any r1 r2 _ W' (h2.cell 0) (h2.cell 1)
  go_enter Tryz.func102, Tryz.ntmps102
  go_wp2_with fail
  go_region_with (first
    | (go_at_call 104; with_reducible refine (hc1 _).mono ?_; rintro e w3 ⟨rfl, rfl⟩)
    | (go_at_call 104; with_reducible refine (hc2 _).mono ?_; rintro e w3 ⟨rfl, rfl⟩)
    | (go_at_call 103; go_loud (refine (ho _ (by rfl)).mono ?_; rintro e w4 ⟨rfl, rfl⟩))
    | fail)
  all_goals
    go_wp2
    go_ret
    exact ⟨rfl, 1, _, by rw [alloc_eq_grow, alloc_eq_grow, alloc_eq_grow, grow_grow, grow_grow]; rfl⟩

theorem ltR (x y : Rg) : ltOf cfR x y = decide (x.1 < y.1 ∨ x.1 = y.1 ∧ x.2 < y.2) := by
  unfold ltOf cfR orI Lib.compareInt
  by_cases h1 : x.1 < y.1
  · simp [h1]
  · by_cases h2 : y.1 < x.1
    · simp [h1, h2]; omega
    · have : x.1 = y.1 := by omega
      by_cases h3 : x.2 < y.2
      · simp [this, h3]
      · by_cases h4 : y.2 < x.2 <;> simp [this, h3, h4]

theorem swoR : SWO (ltOf cfR) where
  irrefl x := by rw [ltR]; simp
  trans x y z h1 h2 := by rw [ltR] at *; simp only [decide_eq_true_eq] at *; omega
  ntrans x y z h1 h2 := by rw [ltR] at *; simp only [decide_eq_false_iff_not] at *; omega

theorem totR (x y : Rg) (h1 : ltOf cfR x y = false) (h2 : ltOf cfR y x = false) : x = y := by
  rw [ltR] at h1 h2
  simp only [decide_eq_false_iff_not] at h1 h2
  exact Prod.ext (by omega) (by omega)

end Go.Proofs.YtnfabgbidkddhaaGreatDoor

namespace Go.Proofs.YtnfabgbidkddhaaGreatDoor
open Go.Shelf Go.RowKit Go.Lib Go.Sort

theorem closure_lays (blk off size : Nat) (w : World) : CmpLays Tryz.prog 102 #[] encR 2 cfR blk off size w :=
  fun _ _ _ _ x y => closure_any x y _

shelf_lay_g SlLaysF0.n6 Slsf 6 at Tryz 101 as Tryz.sortR

def sortedR (d : List Rg) : List Rg := d.mergeSort fun x y => !(ltOf cfR) y x

theorem sortR_any (blk off cap : Nat) (d : Array Rg) (w : World) (hH : HoldsK encR 2 w blk off d) (hblk : blk < w.heap.size) (hsz : d.size < 4611686018427387904) :
    Calls Tryz.prog 101 #[.slice (some ⟨blk, off, none⟩) d.size cap, .func (.func 102) #[] #[]] w fun e w' =>
      e = .returned (.tuple #[]) ∧ ∃ n os, w' = sortWorldK encR 2 w blk off n (sortedR d.toList).toArray os := by
  have eg : ∀ args w, (callFunc 102 args).run Tryz.prog w = .ok (.enter 102 args) w := enters_of Tryz.func102 (by kernel_rfl) rfl
  exact AnyQ.slices_SortFunc_total Tryz.sortR 2 Tryz.isAgg75 Tryz.sizeOf75 encR (fun _ => rfl) (fun x v hv => by simp [encR] at hv; rcases hv with rfl | rfl <;> rfl) cfR swoR 102 #[] blk off cap d w eg (closure_lays blk off d.size w) hH hblk hsz totR

theorem sortR_none (p : Option Addr) (cap : Nat) (fv : Value) (w : World) :
    Calls Tryz.prog 101 #[.slice p 0 cap, fv] w fun e w' => e = .returned (.tuple #[]) ∧ w' = w :=
  AnyF.slices_SortFunc_none Tryz.sortR p cap fv w

theorem sortedR_perm (d : List Rg) : (sortedR d).Perm d := List.mergeSort_perm d _
theorem sortedR_low (d : List Rg) : (sortedR d).Pairwise fun x y => x.1 ≤ y.1 := by
  have h := List.pairwise_mergeSort (le := fun x y => !(ltOf cfR) y x) (fun x y z h1 h2 => by
    simp only [ltR, Bool.not_eq_true', decide_eq_false_iff_not] at *
    omega) (fun x y => by
    simp only [ltR, Bool.or_eq_true, Bool.not_eq_true', decide_eq_false_iff_not]
    omega) d
  refine h.imp fun {x y} hxy => ?_
  simp only [ltR, Bool.not_eq_true', decide_eq_false_iff_not] at hxy
  omega

end Go.Proofs.YtnfabgbidkddhaaGreatDoor

namespace Go.Proofs.YtnfabgbidkddhaaGreatDoor
open Go.Shelf Go.RowKit Go.Lib Go.Sort
attribute [local go_sem ↓] Go.wp_at_zero Go.wp_at_succ

theorem Tryz.infoRange : (Tryz.prog.info? 75).map (fun i => (i.zero, i.size, i.bytes)) = some (some (.agg #[.int .i64 0, .int .i64 0]), 2, 16) := by kernel_rfl

/-- The cells of ranges. -/
def flatR (l : List Rg) : List Value := l.flatMap encR
theorem flatR_length (l : List Rg) : (flatR l).length = l.length * 2 := by
  induction l with
  | nil => rfl
  | cons x l ih =>
    show (encR x ++ flatR l).length = _
    rw [List.length_append, ih, List.length_cons]
    show 2 + _ = _
    omega
theorem flatR_append (l m : List Rg) : flatR (l ++ m) = flatR l ++ flatR m := by simp [flatR]
theorem flatR_one (l : List Rg) : ∀ u ∈ flatR l, u.oneCell' = true := by
  intro u hu
  obtain ⟨e, _, he⟩ := List.mem_flatMap.1 hu
  simp [encR] at he
  rcases he with rfl | rfl <;> rfl
theorem flatR_at : ∀ (l : List Rg) (j : Nat) (h : j < l.length), (flatR l)[j * 2]? = some (.int .i64 l[j].1) ∧ (flatR l)[j * 2 + 1]? = some (.int .i64 l[j].2)
  | x :: l, 0, _ => ⟨rfl, rfl⟩
  | x :: l, j + 1, h => by
    have ih := flatR_at l j (by simpa using h)
    have e : flatR (x :: l) = .int .i64 x.1 :: .int .i64 x.2 :: flatR l := rfl
    rw [e, show (j + 1) * 2 = j * 2 + 1 + 1 by omega]
    simpa using ih
theorem flatK_flatR (l : List Rg) : (flatK encR 2 l.toArray).toList = flatR l := by
  apply List.ext_getElem
  · simp [flatR_length]
  · intro t h1 h2
    have ht : t < l.length * 2 := by simpa [flatR_length] using h2
    have hg := get_flatK encR 2 l.toArray t (by simpa using ht)
    rw [getElem!_pos _ _ (by simpa using ht)] at hg
    rw [Array.getElem_toList, hg]
    have hj : t / 2 < l.length := by omega
    obtain ⟨a, b⟩ := flatR_at l (t / 2) hj
    have hx : (l.toArray[t / 2]! : Rg) = l[t / 2] := by rw [getElem!_pos _ _ (by simpa using hj)]; simp
    rw [hx]
    rcases Nat.mod_two_eq_zero_or_one t with h | h
    · have e : t / 2 * 2 = t := by omega
      rw [e] at a
      rw [h]
      rw [List.getElem?_eq_getElem h2] at a
      injection a with a
      exact a.symm
    · have e : t / 2 * 2 + 1 = t := by omega
      rw [e] at b
      rw [h]
      rw [List.getElem?_eq_getElem h2] at b
      injection b with b
      exact b.symm

section
variable {w w' : World} {e : TypeId} {b off n cap size : Nat} {h : Option Nat} {xs : List Value}

theorem growV_chg (w : World) (q : Nat) (d : Array Value) (b off : Nat) (os : Array Obj) : Chg [b] w (grow (putRow id (Sort.ahead w q) b off d) os) := by
  refine ⟨rfl, rfl, rfl, by simp, fun k hk hne => ?_⟩
  rw [heap_grow_old _ _ (by simpa using hk)]
  have : b ≠ k := fun e => hne (by simp [e])
  simp [putRow, mapBlock, Sort.ahead, Array.getElem?_modify, this]
theorem growV_blk {cur : Array Value} (hB : Blk w b e cur) (q : Nat) (d : Array Value) (os : Array Obj) : Blk (grow (putRow id (Sort.ahead w q) b off d) os) b e (putCells id off d cur) := by
  have hlt := hB.lt
  unfold Blk at hB ⊢
  rw [heap_grow_old _ _ (by simpa using hlt)]
  simp [putRow, mapBlock, Sort.ahead, Array.getElem?_modify, hB]
  rfl
theorem putCellsV_at (cur : Array Value) (d : Array Value) (h : off + d.size ≤ cur.size) : ((putCells id off d cur).toList.drop off).take d.size = d.toList := by
  apply List.ext_getElem?
  intro k
  rw [List.getElem?_take]
  by_cases hk : k < d.size
  · rw [if_pos hk, List.getElem?_drop]
    simp only [putCells, Array.getElem?_toList, Array.getElem?_mapIdx]
    rw [Array.getElem?_eq_getElem (show off + k < cur.size by omega), Option.map_some, if_pos ⟨by omega, by omega⟩, Nat.add_sub_cancel_left]
    simp [hk]
  · rw [if_neg hk, List.getElem?_eq_none]
    simp
    omega
theorem Sl.putRowV (hs : Sl w e size (.slice (some ⟨b, off, none⟩) n cap) h n xs) (q : Nat) (d : Array Value) (hd : d.size = n * size) (os : Array Obj) :
    Sl (grow (Sort.putRow id (Sort.ahead w q) b off d) os) e size (.slice (some ⟨b, off, none⟩) n cap) h n d.toList := by
  refine ⟨by simpa using hd, ?_⟩
  rcases hs.2 with ⟨_, hv, _⟩ | ⟨b', off', cap', cur, hh, hv, hB, hnc, hcm, hcs, ht⟩
  · cases hv
  · simp only [Value.slice.injEq, Option.some.injEq, Addr.mk.injEq, and_true, true_and] at hv
    obtain ⟨⟨rfl, rfl⟩, rfl⟩ := hv
    have hle : n * size ≤ cap * size := Nat.mul_le_mul_right _ hnc
    refine .inr ⟨b, off, cap, _, hh, rfl, growV_blk hB q d os, hnc, hcm, by simpa [putCells] using hcs, ?_⟩
    rw [← hd]
    exact putCellsV_at cur d (by omega)
theorem Sl.holdsV {d : Array Value} (hs : Sl w e size (.slice (some ⟨b, off, none⟩) n cap) h n d.toList) : Holds id w b off d := by
  have hn : d.size = n * size := by have := hs.1; simpa using this
  intro j hj
  have hn0 : 0 < n := by
    rcases Nat.eq_zero_or_pos n with h0 | h0
    · subst h0; omega
    · exact h0
  obtain ⟨b', off', cap', hh, hv, _, _, _, hat⟩ := hs.at_ hn0
  simp only [Value.slice.injEq, Option.some.injEq, Addr.mk.injEq, and_true, true_and] at hv
  obtain ⟨⟨rfl, rfl⟩, rfl⟩ := hv
  obtain ⟨h1, h2⟩ := hat j (by omega)
  refine ⟨?_, h2⟩
  rw [h1]
  simp [hj]
end

theorem sortedR_length (l : List Rg) : (sortedR l).length = l.length := by simp [sortedR]

set_option maxHeartbeats 400000 in
theorem sortSl_any (w : World) (v : Value) (h : Option Nat) (n : Nat) (l : List Rg) (hs : Sl w 75 2 v h n (flatR l)) (hn : n ≤ 1099511627776) :
    Calls Tryz.prog 101 #[v, .func (.func 102) #[] #[]] w fun e w' => e = .returned (.tuple #[]) ∧ Sl w' 75 2 v h n (flatR (sortedR l)) ∧ Chg h.toList w w' := by
  have hl : l.length = n := by have := hs.1; rw [flatR_length] at this; omega
  rcases hs.2 with ⟨rfl, rfl, rfl⟩ | ⟨b, off, cap, cur, rfl, rfl, hB, hnc, hcm, hcs, ht⟩
  · obtain rfl : l = [] := List.eq_nil_of_length_eq_zero hl
    refine (sortR_none none 0 _ w).mono ?_
    rintro e w' ⟨rfl, rfl⟩
    exact ⟨rfl, by simpa [sortedR] using hs, Chg.refl _ _⟩
  · have hs' := hs
    rw [← flatK_flatR l] at hs'
    have hc := sortR_any b off cap l.toArray w hs'.holdsV hB.lt (by simp; omega)
    have hsz : l.toArray.size = n := by simpa using hl
    rw [hsz] at hc
    refine hc.mono ?_
    rintro e w' ⟨rfl, q, os, rfl⟩
    refine ⟨rfl, ?_, growV_chg _ _ _ _ _ _⟩
    have h2 := hs.putRowV q (flatK encR 2 (sortedR l).toArray) (by simp [sortedR_length, hl]) os
    rw [flatK_flatR] at h2
    exact h2

theorem cells_of_rds {w : World} {size n : Nat} {xs : List Value} (a : Addr) (hlen : xs.length = n * size) (h : 0 < n → a.spot = none ∧ a.block < w.heap.size ∧ a.block ∉ ([] : List Nat) ∧ ∀ j, j < n * size → w.cell? ⟨a.block, a.off + j, none⟩ = xs[j]?) :
    ∀ j u, xs[j]? = some u → w.cell? (a.add j) = some u := by
  intro j u hu
  have hj : j < n * size := by
    have := (List.getElem?_eq_some_iff.1 hu).1
    omega
  have hn : 0 < n := by
    rcases Nat.eq_zero_or_pos n with h0 | h0
    · subst h0
      omega
    · exact h0
  obtain ⟨r1, _, _, r4⟩ := h hn
  obtain ⟨b, off, sp⟩ := a
  simp only at r1 r4
  subst r1
  rw [Addr.add_lit, r4 j hj, hu]

theorem slOwn_empty (w : World) (e : TypeId) (size : Nat) : Sl (w.alloc (.cells #[] e)) e size (.slice (some ⟨w.heap.size, 0, none⟩) 0 0) (some w.heap.size) 0 [] :=
  ⟨by simp, .inr ⟨w.heap.size, 0, 0, #[], rfl, rfl, Blk.new _ _ _, Nat.le_refl _, Nat.zero_le _, by simp, by simp⟩⟩

set_option maxRecDepth 100000 in
set_option maxHeartbeats 400000 in
theorem cloneR_any (w : World) (v : Value) (n : Nat) (xs : List Value) (hr : RdS w [] 2 v n xs) (h1 : ∀ u ∈ xs, u.oneCell' = true) (hn : n ≤ 2199023255552) :
    Calls Tryz.prog 100 #[v] w fun e w' => ∃ v' h', e = .returned v' ∧ Sl w' 75 2 v' h' n xs ∧ Below w.heap.size w w' ∧ ∀ b, h' = some b → w.heap.size ≤ b := by
  obtain ⟨i0, hi, hz0, hz1, hz2⟩ := info_parts Tryz.infoRange
  rcases hr with ⟨hlen, ⟨rfl, rfl⟩ | ⟨a, cap, rfl, hnc, hcm, hcell⟩⟩
  · have hx : xs = [] := List.eq_nil_of_length_eq_zero (by simpa using hlen)
    subst hx
    have heq := fun W => Lib.run_eql_slice_nil (P := Tryz.prog) W 55 75 none 0 0 0 0 Tryz.underlying55
    go_enter Tryz.func100, Tryz.ntmps100
    go_wp2
    go_ret
    exact ⟨_, none, rfl, Sl.nil _ _ _, Below.refl _ _, fun b hb => by cases hb⟩
  · have heq := fun W => Lib.run_eql_slice_nil (P := Tryz.prog) W 55 75 (some a) n cap 0 0 Tryz.underlying55
    have hcc := cells_of_rds a hlen hcell
    go_enter Tryz.func100, Tryz.ntmps100
    go_wp2_with (at_builtin; refine wpList_append_slA _ rfl _ _ 55 rfl Tryz.underlying55 hi hz0 hz1 hz2 rfl (by decide) (slOwn_empty w 75 2) rfl a n cap xs rfl hlen ?_ h1 ?_ ?_ ?_)
    · intro j u hu
      have hb := World.block_lt_of_cell? w _ (hcc j u hu)
      rw [World.cell?_alloc_lt w _ _ hb]
      exact hcc j u hu
    · unfold maxLen
      omega
    · omega
    · intro v2 h2 w2 hs2 hc2 ho2
      have hbel : Below w.heap.size w w2 := ⟨hc2.os, hc2.tape, hc2.output, Nat.le_trans (by simp) hc2.size, fun k hk => (hc2.block k (by simp; omega) (by simp; omega)).trans (Below.heap_alloc w _ k hk)⟩
      have hfr : ∀ b, h2 = some b → w.heap.size ≤ b := by
        intro b hb
        rcases ho2 with h3 | ⟨g, h3, h4⟩
        · rw [hb] at h3
          injection h3 with h3
          omega
        · rw [hb] at h3
          injection h3 with h3
          omega
      clear hc2 ho2
      go_wp2
      go_ret
      exact ⟨v2, h2, rfl, by simpa using hs2, hbel, hfr⟩

end Go.Proofs.YtnfabgbidkddhaaGreatDoor

namespace Go.Proofs.YtnfabgbidkddhaaGreatDoor
open Go.Shelf Go.RowKit Go.Lib Go.Sort

shelf_lay_g SlLaysE0.n41 Slgn 41 at Tryz 100 as Tryz.cloneR

/-- A block of the call's own that begins with the ranges D (n of them), seen as a slice. -/
def RowR (w : World) (g n cap : Nat) (D : List Rg) : Prop := Sl w 75 2 (.slice (some ⟨g, 0, none⟩) n cap) (some g) n (flatR D)

set_option maxHeartbeats 400000 in
theorem cloneSl_any (w : World) (v : Value) (h : Option Nat) (n : Nat) (l : List Rg) (hs : Sl w 75 2 v h n (flatR l)) (hn : n ≤ 1099511627776) :
    Calls Tryz.prog 100 #[v] w fun e w' => ∃ v', e = .returned v' ∧ ((v' = .slice none 0 0 ∧ n = 0 ∧ l = []) ∨ ∃ g cap, v' = .slice (some ⟨g, 0, none⟩) n cap ∧ RowR w' g n cap l ∧ w.heap.size ≤ g) ∧ Below w.heap.size w w' := by
  obtain ⟨i0, hi, hz0, hz1, hz2⟩ := info_parts Tryz.infoRange
  have hl : l.length = n := by have := hs.1; rw [flatR_length] at this; omega
  rcases hs.2 with ⟨rfl, rfl, rfl⟩ | ⟨b, off, cap, cur, rfl, rfl, hB, hnc, hcm, hcs, ht⟩
  · obtain rfl : l = [] := List.eq_nil_of_length_eq_zero hl
    refine (AnyE.slices_Clone_nil Tryz.cloneR 0 0 w).mono ?_
    rintro e w' ⟨rfl, rfl⟩
    exact ⟨_, rfl, .inl ⟨rfl, rfl, rfl⟩, Below.refl _ _⟩
  · have hat : ∀ j u, (flatR l)[j]? = some u → w.cell? ⟨b, off + j, none⟩ = some u := fun j u hj => by
      have hj2 : j < n * 2 := by
        have := (List.getElem?_eq_some_iff.1 hj).1
        rw [flatR_length] at this
        omega
      rw [hB.cell, ← Array.getElem?_toList]
      rw [← ht, List.getElem?_take, if_pos hj2, List.getElem?_drop] at hj
      exact hj
    have hc := AnyE.slices_Clone Tryz.cloneR i0 (.agg #[.int .i64 0, .int .i64 0]) 2 16 hi hz0 hz1 hz2 rfl (by decide) Tryz.sizeOf75 b off n cap (flatR l) w (by rw [flatR_length]; omega) (by unfold maxLen; omega) (by omega) hat (flatR_one l)
    refine hc.mono ?_
    rintro e w' ⟨v', rfl, ho, hne, hb⟩
    refine ⟨v', rfl, .inr ?_, hb⟩
    have hsl := Sl.of_own ho
    rcases ho.2 with ⟨h1, _⟩ | ⟨g, cap', cur', rfl, hg, _⟩
    · exact absurd h1 hne
    · exact ⟨g, cap', rfl, hsl, hg⟩

theorem flatR_set : ∀ (D : List Rg) (m : Nat) (x : Rg), m < D.length → flatR (D.set m x) = (flatR D).take (m * 2) ++ encR x ++ (flatR D).drop (m * 2 + 2)
  | y :: D, 0, x, _ => rfl
  | y :: D, m + 1, x, h => by
    have ih := flatR_set D m x (by simpa using h)
    have e : ∀ D : List Rg, flatR (y :: D) = .int .i64 y.1 :: .int .i64 y.2 :: flatR D := fun _ => rfl
    rw [List.set_cons_succ, e, e, show (m + 1) * 2 = m * 2 + 1 + 1 by omega, show m * 2 + 1 + 1 + 2 = (m * 2 + 2) + 1 + 1 by omega, ih]
    simp

/-- The store of a range's second number. -/
theorem flatR_to (D : List Rg) (m : Nat) (h : m < D.length) (y : Int) : (flatR D).set (m * 2 + 1) (.int .i64 y) = flatR (D.set m (D[m].1, y)) := by
  induction D generalizing m with
  | nil => simp at h
  | cons z D ih =>
    cases m with
    | zero => rfl
    | succ m =>
      have := ih m (by simpa using h)
      have e : ∀ D : List Rg, flatR (z :: D) = .int .i64 z.1 :: .int .i64 z.2 :: flatR D := fun _ => rfl
      rw [List.set_cons_succ, e, e, show (m + 1) * 2 + 1 = (m * 2 + 1) + 1 + 1 by omega, List.set_cons_succ, List.set_cons_succ, this]
      rfl

theorem run_append_in {w : World} {g n cap : Nat} {D : List Rg} (hs : RowR w g n cap D) (m : Nat) (hm : m < n) (a : Addr) (c : Nat) (x : Rg)
    (hnews : ∀ j u, (encR x)[j]? = some u → w.cell? (a.add j) = some u) (ty : TypeId) :
    ∃ w', (Builtin.append_ #[55, 55] ty #[.slice (some ⟨g, 0, none⟩) m n, .slice (some a) 1 c]).run Tryz.prog w = .ok (.slice (some ⟨g, 0, none⟩) (m + 1) n) w' ∧ RowR w' g n cap (D.set m x) ∧ Chg [g] w w' := by
  obtain ⟨i0, hi, hz0, hz1, hz2⟩ := info_parts Tryz.infoRange
  have hl : D.length = n := by have := hs.1; rw [flatR_length] at this; omega
  rcases hs.2 with ⟨_, hv, _⟩ | ⟨b', off', cap', cur, hh, hv, hB, hnc, hcm, hcs, ht⟩
  · cases hv
  · simp only [Value.slice.injEq, Option.some.injEq, Addr.mk.injEq, and_true, true_and] at hv
    obtain ⟨⟨rfl, rfl⟩, rfl⟩ := hv
    have hr := run_append_room (P := Tryz.prog) w 55 ty 75 i0 Tryz.underlying55 hi g m n cur hB a 1 c (encR x) (by rw [hz1]; rfl) hnews (fun u hu => by simp [encR] at hu; rcases hu with rfl | rfl <;> rfl) (by omega) (by rw [hz1]; show m * 2 + 2 ≤ _; omega)
    rw [hz1] at hr
    refine ⟨_, hr, ?_, ⟨rfl, rfl, rfl, by simp [World.setRow], fun k _ hk => setRow_other w g k _ (fun e => hk (by simp [e]))⟩⟩
    refine ⟨by rw [flatR_length]; simp [hl], .inr ⟨g, 0, cap, _, rfl, rfl, setRow_heap w g cur _ _ _ hB, hnc, hcm, ?_, ?_⟩⟩
    · simp only [List.size_toArray, List.length_append, List.length_take, List.length_drop, Array.length_toList]
      show 0 + cap * 2 ≤ min (m * 2) cur.size + 2 + (cur.size - (m * 2 + 2))
      omega
    · rw [flatR_set D m x (by omega), ← ht]
      simp only [List.drop_zero]
      show ((cur.toList.take (m * 2) ++ encR x) ++ cur.toList.drop (m * 2 + 2)).take (n * 2) = _
      have h1 : (cur.toList.take (m * 2) ++ encR x).length = m * 2 + 2 := by
        rw [List.length_append, List.length_take, Nat.min_eq_left (by simp; omega)]; rfl
      rw [List.take_append, List.take_of_length_le (by omega), h1, List.take_take, Nat.min_eq_left (by omega), List.drop_take]

end Go.Proofs.YtnfabgbidkddhaaGreatDoor
