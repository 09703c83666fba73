/-
  Two logs beside one another; a log that only takes.
-/
import Derived.Test.YtkgpflobbmagaaaLogInts
namespace Go.Proofs.Ytkgpflobbmagaaa
open Go.RowKit

section
variable {w wr w' : World} {g g2 : Nat} {h h2 h' : Option Nat} {x x2 : LogV}

theorem addC (q : OwnLog w wr g h x) (e : List E4) (n cap : Nat) (cs : Array Value) (y : LogV) (hy : x.add e = y) (hn : e.length = n) (hcs : cs.toList = flatE e) (hm1 : 1 ≤ x.most) (hm2 : x.most ≤ 1099511627776) (hn1 : x.es.length ≤ 1099511627776) (hn2 : n ≤ 1099511627776) :
    Calls Try.prog 21 #[.pointer (some ⟨g, 0, none⟩), .slice (some ⟨wr.heap.size, 0, none⟩) n cap] (wr.alloc (.cells cs 42)) fun e' w' => e' = .returned (.tuple #[]) ∧ ∃ h', OwnLog w w' g h' y ∧ Chg (g :: h.toList) wr w' ∧ (h' = h ∨ ∃ k, h' = some k ∧ wr.heap.size ≤ k) := by
  subst hn
  subst hy
  refine (add_any (wr.alloc (.cells cs 42)) g h x (some ⟨wr.heap.size, 0, none⟩) cap e (q.log.alloc _) hm1 hm2 hn1 hn2 (rdE_new wr e cs _ _ hcs q.ne)).mono ?_
  rintro e' w' ⟨he, h', hl, hc, ho⟩
  refine ⟨he, h', (q.alloc _).turned hl hc ho, ((Chg.refl (g :: h.toList) wr).alloc _).trans hc (fun i hi => .inl hi), ?_⟩
  rcases ho with h1 | ⟨k, h1, h3⟩
  · exact .inl h1
  · simp at h3
    exact .inr ⟨k, h1, by omega⟩

structure TwoLogs (w wr : World) (g : Nat) (h : Option Nat) (x : LogV) (g2 : Nat) (h2 : Option Nat) (x2 : LogV) : Prop where
  one : OwnLog w wr g h x
  two : OwnLog w wr g2 h2 x2
  ng : g ≠ g2
  nh : ∀ b, h = some b → h2 ≠ some b

theorem TwoLogs.swap (q : TwoLogs w wr g h x g2 h2 x2) : TwoLogs w wr g2 h2 x2 g h x := ⟨q.two, q.one, fun e => q.ng e.symm, fun b hb hh => q.nh b hh hb⟩
theorem TwoLogs.later (q : TwoLogs w wr g h x g2 h2 x2) (hb : Below wr.heap.size wr w') : TwoLogs w w' g h x g2 h2 x2 := ⟨q.one.later hb, q.two.later hb, q.ng, q.nh⟩
theorem TwoLogs.alloc (q : TwoLogs w wr g h x g2 h2 x2) (o : Obj) : TwoLogs w (wr.alloc o) g h x g2 h2 x2 := ⟨q.one.alloc o, q.two.alloc o, q.ng, q.nh⟩
theorem TwoLogs.drewN (q : TwoLogs w wr g h x g2 h2 x2) (n : Nat) : TwoLogs w (wr.drewN n) g h x g2 h2 x2 := ⟨q.one.heap rfl rfl rfl rfl, q.two.heap rfl rfl rfl rfl, q.ng, q.nh⟩
theorem TwoLogs.added {y : LogV} (q : TwoLogs w wr g h x g2 h2 x2) (hq : OwnLog w w' g h' y) (hc : Chg (g :: h.toList) wr w') (ho : h' = h ∨ ∃ k, h' = some k ∧ wr.heap.size ≤ k) : TwoLogs w w' g h' y g2 h2 x2 := by
  obtain ⟨v, hB, hs⟩ := q.one.log
  obtain ⟨v2, hB2, hs2⟩ := q.two.log
  have n1 : g2 ∉ g :: h.toList := by
    intro hm
    simp at hm
    rcases hm with h1 | h1
    · exact q.ng h1.symm
    · exact hs.ne_blk hB2 (by decide) g2 h1 rfl
  have n2 : ∀ b, h2 = some b → b ∉ g :: h.toList := by
    intro b hb hm
    simp at hm
    rcases hm with h1 | h1
    · exact hs2.ne_blk hB (by decide) b hb h1
    · exact q.nh b h1 hb
  refine ⟨hq, ⟨q.two.log.chg hc n1 n2, hq.below, q.two.og, q.two.oh⟩, q.ng, fun b hb hh => ?_⟩
  rcases ho with h1 | ⟨k, h1, h3⟩
  · exact q.nh b (h1 ▸ hb) hh
  · rw [h1] at hb
    injection hb with hb
    have := hs2.lt b hh
    omega
/-- One log, and a new one behind it. -/
theorem TwoLogs.fresh (q : OwnLog w wr g h x) (hb : Below wr.heap.size wr w') (hl : LogAt w' g2 h2 x2) (hg : wr.heap.size ≤ g2) (hh : ∀ b, h2 = some b → wr.heap.size ≤ b) : TwoLogs w w' g h x g2 h2 x2 := by
  obtain ⟨v, hB, hs⟩ := q.log
  refine ⟨q.later hb, ⟨hl, (q.later hb).below, Nat.le_trans q.below.size hg, fun b hb2 => Nat.le_trans q.below.size (hh b hb2)⟩, fun e => ?_, fun b hb2 h3 => ?_⟩
  · have := hB.lt
    omega
  · have h4 := hs.lt b hb2
    have h5 := hh b h3
    omega
end

theorem addLoop_rise (c : Int) : ∀ (e es : List E4), (∀ y ∈ es, y.m ≤ c) → (∀ x ∈ e, x.m = c) → addLoop es e = es ++ e
  | [], es, _, _ => by simp [addLoop]
  | x :: r, es, h1, h2 => by
    have hx := h2 x (List.mem_cons_self ..)
    rw [addLoop, if_neg, addLoop_rise c r (es ++ [x])]
    · simp
    · intro y hy
      rw [List.mem_append] at hy
      rcases hy with hy | hy
      · exact h1 y hy
      · simp at hy
        subst hy
        omega
    · exact fun y hy => h2 y (List.mem_cons_of_mem _ hy)
    · rintro ⟨y, hy, hlt⟩
      have := h1 y (List.mem_of_getLast? hy)
      omega
theorem add_rise (m : Int) (es e : List E4) (c : Int) (h1 : ∀ y ∈ es, y.m ≤ c) (h2 : ∀ x ∈ e, x.m = c) (hl : ((es ++ e).length : Int) ≤ m) : LogV.add ⟨m, es, 0⟩ e = ⟨m, es ++ e, 0⟩ := by
  unfold LogV.add
  simp only [addLoop_rise c e es h1 h2]
  rw [if_neg (by omega)]

/-! ### The plain law of LogKinds -/
def kK (sp : Nat → Nat × Nat) (i : Nat) : Int := 1 + ((sp i).1 : Int) % 9
def hK (sp : Nat → Nat × Nat) (i : Nat) : Int := 1 + ((sp i).2 : Int) % 3
def x3 (sp : Nat → Nat × Nat) (i : Nat) : List E4 := [⟨(i : Int) + 2, 1, kK sp i, hK sp i⟩, ⟨(i : Int) + 2, 2, kK sp i, hK sp i⟩, ⟨(i : Int) + 2, 3, kK sp i + 1, hK sp i⟩]
def y1 (sp : Nat → Nat × Nat) (i : Nat) : List E4 := [⟨(i : Int) + 2, 2, kK sp i, hK sp i⟩]
def xs (sp : Nat → Nat × Nat) (n : Nat) : List E4 := (List.range n).flatMap (x3 sp)
def ys (sp : Nat → Nat × Nat) (n : Nat) : List E4 := (List.range n).flatMap (y1 sp)
theorem xs_succ (sp : Nat → Nat × Nat) (n : Nat) : xs sp (n + 1) = xs sp n ++ x3 sp n := by simp [xs, List.range_succ]
theorem ys_succ (sp : Nat → Nat × Nat) (n : Nat) : ys sp (n + 1) = ys sp n ++ y1 sp n := by simp [ys, List.range_succ]
theorem xs_length (sp : Nat → Nat × Nat) : ∀ n, (xs sp n).length = 3 * n
  | 0 => rfl
  | n + 1 => by rw [xs_succ, List.length_append, xs_length sp n]; simp [x3]; omega
theorem ys_length (sp : Nat → Nat × Nat) : ∀ n, (ys sp n).length = n
  | 0 => rfl
  | n + 1 => by rw [ys_succ, List.length_append, ys_length sp n]; simp [y1]
theorem xs_le (sp : Nat → Nat × Nat) (n : Nat) : ∀ y ∈ xs sp n, y.m ≤ (n : Int) + 1 := by
  intro y hy
  obtain ⟨i, hi, h2⟩ := List.mem_flatMap.1 hy
  rw [List.mem_range] at hi
  simp only [x3, List.mem_cons, List.not_mem_nil, or_false] at h2
  rcases h2 with rfl | rfl | rfl <;> simp only <;> omega
theorem ys_le (sp : Nat → Nat × Nat) (n : Nat) : ∀ y ∈ ys sp n, y.m ≤ (n : Int) + 1 := by
  intro y hy
  obtain ⟨i, hi, h2⟩ := List.mem_flatMap.1 hy
  rw [List.mem_range] at hi
  simp only [y1, List.mem_cons, List.not_mem_nil, or_false] at h2
  rcases h2 with rfl
  simp only
  omega
theorem kinds_x (sp : Nat → Nat × Nat) (n : Nat) (hn : n ≤ 80) : LogV.add ⟨1000, xs sp n, 0⟩ (x3 sp n) = ⟨1000, xs sp (n + 1), 0⟩ := by
  rw [xs_succ]
  refine add_rise 1000 _ _ ((n : Int) + 2) (fun y hy => by have := xs_le sp n y hy; omega) (fun y hy => ?_) ?_
  · simp only [x3, List.mem_cons, List.not_mem_nil, or_false] at hy
    rcases hy with rfl | rfl | rfl <;> rfl
  · rw [← xs_succ, xs_length]
    omega
theorem kinds_y (sp : Nat → Nat × Nat) (n : Nat) (hn : n ≤ 80) : LogV.add ⟨1000, ys sp n, 0⟩ (y1 sp n) = ⟨1000, ys sp (n + 1), 0⟩ := by
  rw [ys_succ]
  refine add_rise 1000 _ _ ((n : Int) + 2) (fun y hy => by have := ys_le sp n y hy; omega) (fun y hy => ?_) ?_
  · simp only [y1, List.mem_cons, List.not_mem_nil, or_false] at hy
    rcases hy with rfl
    rfl
  · rw [← ys_succ, ys_length]
    omega
theorem kinds_last (sp : Nat → Nat × Nat) (n : Nat) (hn : n ≤ 80) : LogV.add ⟨1000, xs sp n, 0⟩ [⟨(n : Int) + 1 + 1, 2, 1, 2⟩] = ⟨1000, xs sp n ++ [⟨(n : Int) + 1 + 1, 2, 1, 2⟩], 0⟩ := by
  refine add_rise 1000 _ _ ((n : Int) + 1 + 1) (fun y hy => by have := xs_le sp n y hy; omega) (fun y hy => ?_) ?_
  · simp at hy
    rw [hy]
  · simp [xs_length]
    omega
theorem kinds_filter (sp : Nat → Nat × Nat) (n : Nat) (a c : Int) : (xs sp n).filter (takes 2 a c) = (ys sp n).filter (takes 2 a c) := by
  unfold xs ys
  rw [List.filter_flatMap, List.filter_flatMap]
  congr 1
theorem kinds_since (sp : Nat → Nat × Nat) (n : Nat) (a : Int) (ha0 : 0 ≤ a) (ha : a ≤ (n : Int) + 1) : ∃ t : Told,
    LogV.since ⟨1000, xs sp n, 0⟩ 2 a ((n : Int) + 1) 0 = ⟨t, (n : Int) + 1, false, 0⟩ ∧ LogV.since ⟨1000, ys sp n, 0⟩ 2 a ((n : Int) + 1) 0 = ⟨t, (n : Int) + 1, false, 0⟩ ∧
      LogV.since ⟨1000, xs sp n ++ [⟨(n : Int) + 1 + 1, 2, 1, 2⟩], 0⟩ 2 a ((n : Int) + 1) 0 = ⟨t, (n : Int) + 1, false, 0⟩ := by
  refine ⟨told ((ys sp n).filter (takes 2 a ((n : Int) + 1))), ?_, ?_, ?_⟩
  · rw [since_all _ _ _ _ _ (by decide) (by simp only; omega) (by omega)]
    simp only [kinds_filter]
  · rw [since_all _ _ _ _ _ (by decide) (by simp only; omega) (by omega)]
  · rw [since_all _ _ _ _ _ (by decide) (by simp only; omega) (by omega)]
    have hlast : ([⟨(n : Int) + 1 + 1, 2, 1, 2⟩] : List E4).filter (takes 2 a ((n : Int) + 1)) = [] := by
      rw [List.filter_eq_nil_iff]
      intro y hy
      simp at hy
      subst hy
      simp [takes]
      omega
    simp only [List.filter_append, hlast, List.append_nil, kinds_filter]

end Go.Proofs.Ytkgpflobbmagaaa
