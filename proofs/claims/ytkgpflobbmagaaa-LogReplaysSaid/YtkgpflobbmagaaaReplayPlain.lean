/-
  The plain law of LogReplays: a world of sixteen objects, its entries, and who goes by the lists.
-/
import Derived.Test.YtkgpflobbmagaaaLogTwo
namespace Go.Proofs.Ytkgpflobbmagaaa
open Go.RowKit

abbrev Mods := Nat → Int
def rHow (now : Mods) (s : Nat × Nat) : Int := if now (s.1 % 16) = 0 then 1 else if s.2 % 3 = 0 then 3 else 2
def rNow (now : Mods) (clock : Int) (s : Nat × Nat) : Mods := fun j => if j = s.1 % 16 then (if rHow now s = 3 then 0 else clock) else now j
def nowAt (sp : Nat → Nat × Nat) : Nat → Mods
  | 0 => fun _ => 0
  | i + 1 => rNow (nowAt sp i) ((i : Int) + 2) (sp i)
def howAt (sp : Nat → Nat × Nat) (i : Nat) : Int := rHow (nowAt sp i) (sp i)
def rE2 (sp : Nat → Nat × Nat) (i : Nat) : E4 := ⟨(i : Int) + 2, 2, ((sp i).1 % 16 : Nat) + 1, howAt sp i⟩
def rE1 (i : Nat) : E4 := ⟨(i : Int) + 2, 1, 1, 2⟩
def rEs (sp : Nat → Nat × Nat) (n : Nat) : List E4 := (List.range n).flatMap fun i => [rE2 sp i, rE1 i]

theorem rEs_succ (sp : Nat → Nat × Nat) (n : Nat) : rEs sp (n + 1) = rEs sp n ++ [rE2 sp n, rE1 n] := by simp [rEs, List.range_succ]
theorem rEs_length (sp : Nat → Nat × Nat) : ∀ n, (rEs sp n).length = 2 * n
  | 0 => rfl
  | n + 1 => by rw [rEs_succ, List.length_append, rEs_length sp n]; simp; omega
theorem rEs_le (sp : Nat → Nat × Nat) (n : Nat) : ∀ y ∈ rEs sp n, y.m ≤ (n : Int) + 1 := by
  intro y hy
  obtain ⟨i, hi, h2⟩ := List.mem_flatMap.1 hy
  rw [List.mem_range] at hi
  simp only [List.mem_cons, List.not_mem_nil, or_false] at h2
  rcases h2 with rfl | rfl <;> simp only [rE2, rE1] <;> omega
theorem rEs_add (sp : Nat → Nat × Nat) (n : Nat) (hn : n ≤ 80) : LogV.add ⟨1000, rEs sp n, 0⟩ [rE2 sp n, rE1 n] = ⟨1000, rEs sp (n + 1), 0⟩ := by
  rw [rEs_succ]
  refine add_rise 1000 _ _ ((n : Int) + 2) (fun y hy => by have := rEs_le sp n y hy; omega) (fun y hy => ?_) ?_
  · simp only [List.mem_cons, List.not_mem_nil, or_false] at hy
    rcases hy with rfl | rfl <;> rfl
  · rw [← rEs_succ, rEs_length]
    omega

/-- The entries of the steps from p on, ahead of q. -/
def seg (sp : Nat → Nat × Nat) (p : Nat) : Nat → List E4
  | 0 => []
  | d + 1 => seg sp p d ++ [rE2 sp (p + d)]
theorem seg_length (sp : Nat → Nat × Nat) (p : Nat) : ∀ d, (seg sp p d).length = d
  | 0 => rfl
  | d + 1 => by rw [seg, List.length_append, seg_length sp p d]; rfl
theorem takes_yes (a c : Int) (e : E4) (h0 : e.k = 2) (h1 : a < e.m) (h2 : e.m ≤ c) : takes 2 a c e = true := by
  unfold takes
  rw [decide_eq_true h1, decide_eq_true h2, h0]
  rfl
theorem takes_no (a c : Int) (e : E4) (h : e.k ≠ 2 ∨ ¬ a < e.m) : takes 2 a c e = false := by
  unfold takes
  rcases h with h | h
  · rw [beq_eq_false_iff_ne.2 h]
    rfl
  · rw [decide_eq_false h]
    simp
theorem rEs_filter (sp : Nat → Nat × Nat) (p : Nat) (c : Int) : ∀ n : Nat, (n : Int) + 1 ≤ c → (rEs sp n).filter (takes 2 ((p : Int) + 1) c) = seg sp p (n - p)
  | 0, _ => by simp [rEs, seg]
  | n + 1, hc => by
    rw [rEs_succ, List.filter_append, rEs_filter sp p c n (by omega)]
    have hc' : (n : Int) + 2 ≤ c := by omega
    by_cases h : p ≤ n
    · have h1 : takes 2 ((p : Int) + 1) c (rE2 sp n) = true := takes_yes _ _ _ rfl (by simp only [rE2]; omega) (by simp only [rE2]; omega)
      have h2 : takes 2 ((p : Int) + 1) c (rE1 n) = false := takes_no _ _ _ (.inl (by simp [rE1]))
      rw [show n + 1 - p = (n - p) + 1 from by omega, seg, show p + (n - p) = n from by omega]
      simp [h1, h2]
    · have h1 : takes 2 ((p : Int) + 1) c (rE2 sp n) = false := takes_no _ _ _ (.inr (by simp only [rE2]; omega))
      have h2 : takes 2 ((p : Int) + 1) c (rE1 n) = false := takes_no _ _ _ (.inl (by simp [rE1]))
      rw [show n + 1 - p = 0 from by omega, show n - p = 0 from by omega]
      simp [h1, h2, seg]

/-! ### What the lists say -/
theorem mem_toldS : ∀ (s : Seen) (t : Told) (x : Int),
    (x ∈ (s.foldl toldOne t).made ↔ x ∈ t.made ∨ ∃ p ∈ s, p.1 = x ∧ p.2.1 = 1 ∧ p.2.2 ≠ 3) ∧
    (x ∈ (s.foldl toldOne t).turned ↔ x ∈ t.turned ∨ ∃ p ∈ s, p.1 = x ∧ p.2.1 ≠ 1 ∧ p.2.2 ≠ 3) ∧
    (x ∈ (s.foldl toldOne t).gone ↔ x ∈ t.gone ∨ ∃ p ∈ s, p.1 = x ∧ p.2.1 ≠ 1 ∧ p.2.2 = 3)
  | [], t, x => by simp
  | p :: s, t, x => by
    obtain ⟨h1, h2, h3⟩ := mem_toldS s (toldOne t p) x
    rw [List.foldl_cons, h1, h2, h3]
    unfold toldOne
    simp only [List.mem_cons, exists_eq_or_imp]
    by_cases a : p.2.1 = 1 <;> by_cases b : p.2.2 = 3 <;> simp [a, b] <;> grind

/-- What was seen of the steps: each object that was touched, what befell it first, and last. -/
structure SeenOk (sp : Nat → Nat × Nat) (p d : Nat) (s : Seen) : Prop where
  nodup : (s.map (·.1)).Nodup
  all : ∀ x ∈ s, ∃ k : Nat, k < 16 ∧ x.1 = (k : Int) + 1 ∧ (x.2.1 = 1 ↔ nowAt sp p k = 0) ∧ (x.2.2 = 3 ↔ nowAt sp (p + d) k = 0)
  there : ∀ k : Nat, k < 16 → (∃ i, p ≤ i ∧ i < p + d ∧ (sp i).1 % 16 = k) → ∃ x ∈ s, x.1 = (k : Int) + 1
  un : ∀ k : Nat, (∀ x ∈ s, x.1 ≠ (k : Int) + 1) → nowAt sp (p + d) k = nowAt sp p k

theorem howAt_cases (sp : Nat → Nat × Nat) (i : Nat) : (howAt sp i = 1 ↔ nowAt sp i ((sp i).1 % 16) = 0) ∧ (howAt sp i = 3 ↔ nowAt sp (i + 1) ((sp i).1 % 16) = 0) := by
  unfold howAt
  simp only [nowAt, rNow, if_true]
  unfold rHow
  split <;> split <;> simp_all <;> omega
theorem nowAt_other (sp : Nat → Nat × Nat) (i k : Nat) (h : k ≠ (sp i).1 % 16) : nowAt sp (i + 1) k = nowAt sp i k := by
  simp only [nowAt, rNow]
  rw [if_neg h]
theorem nowAt_nonneg (sp : Nat → Nat × Nat) : ∀ i k, 0 ≤ nowAt sp i k
  | 0, _ => Int.le_refl 0
  | i + 1, k => by
    have := nowAt_nonneg sp i k
    simp only [nowAt, rNow]
    split
    · split <;> omega
    · exact this
theorem nowAt_le (sp : Nat → Nat × Nat) : ∀ i k, nowAt sp i k ≤ (i : Int) + 1
  | 0, _ => by simp [nowAt]
  | i + 1, k => by
    have := nowAt_le sp i k
    simp only [nowAt, rNow]
    split
    · split <;> omega
    · omega

theorem mem_addS : ∀ (s : Seen) (e : E4), (s.map (·.1)).Nodup → ∀ x, x ∈ addS s e ↔ (x ∈ s ∧ x.1 ≠ e.i) ∨ (x.1 = e.i ∧ x.2.2 = e.h ∧ ((∃ q ∈ s, q.1 = e.i ∧ x.2.1 = q.2.1) ∨ ((∀ q ∈ s, q.1 ≠ e.i) ∧ x.2.1 = e.h)))
  | [], e, _, x => by
    obtain ⟨a, b, c⟩ := x
    simp [addS]
    grind
  | q :: r, e, hn, x => by
    rw [List.map_cons, List.nodup_cons] at hn
    obtain ⟨h1, h2⟩ := hn
    rw [addS]
    by_cases hq : q.1 = e.i
    · rw [if_pos hq]
      have hr : ∀ y ∈ r, y.1 ≠ e.i := fun y hy he => h1 (List.mem_map.2 ⟨y, hy, by rw [he, hq]⟩)
      obtain ⟨a, b, c⟩ := x
      obtain ⟨qa, qb, qc⟩ := q
      simp only [List.mem_cons, Prod.mk.injEq]
      constructor
      · rintro (⟨rfl, rfl, rfl⟩ | h)
        · exact .inr ⟨hq, rfl, .inl ⟨_, .inl rfl, hq, rfl⟩⟩
        · exact .inl ⟨.inr h, hr _ h⟩
      · rintro (⟨⟨rfl, rfl, rfl⟩ | h, h3⟩ | ⟨h3, h4, ⟨y, rfl | hy, h6, h7⟩ | ⟨h5, h6⟩⟩)
        · exact absurd hq h3
        · exact .inr h
        · exact .inl ⟨by rw [h3]; exact hq.symm, h7, h4⟩
        · exact absurd h6 (hr y hy)
        · exact absurd hq (h5 (qa, qb, qc) (.inl rfl))
    · rw [if_neg hq]
      have ih := mem_addS r e h2 x
      simp only [List.mem_cons, ih]
      constructor
      · rintro (rfl | ⟨h3, h4⟩ | ⟨h3, h4, ⟨y, hy, h6, h7⟩ | ⟨h5, h6⟩⟩)
        · exact .inl ⟨.inl rfl, hq⟩
        · exact .inl ⟨.inr h3, h4⟩
        · exact .inr ⟨h3, h4, .inl ⟨y, .inr hy, h6, h7⟩⟩
        · refine .inr ⟨h3, h4, .inr ⟨?_, h6⟩⟩
          rintro y (rfl | hy)
          · exact hq
          · exact h5 y hy
      · rintro (⟨rfl | h3, h4⟩ | ⟨h3, h4, ⟨y, rfl | hy, h6, h7⟩ | ⟨h5, h6⟩⟩)
        · exact .inl rfl
        · exact .inr (.inl ⟨h3, h4⟩)
        · exact absurd h6 hq
        · exact .inr (.inr ⟨h3, h4, .inl ⟨y, hy, h6, h7⟩⟩)
        · exact .inr (.inr ⟨h3, h4, .inr ⟨fun y hy => h5 y (.inr hy), h6⟩⟩)
theorem nodup_addS : ∀ (s : Seen) (e : E4), (s.map (·.1)).Nodup → ((addS s e).map (·.1)).Nodup
  | [], e, _ => by simp [addS]
  | q :: r, e, hn => by
    have hn' := hn
    rw [List.map_cons, List.nodup_cons] at hn
    obtain ⟨h1, h2⟩ := hn
    rw [addS]
    by_cases hq : q.1 = e.i
    · rw [if_pos hq]
      exact hn'
    · rw [if_neg hq, List.map_cons, List.nodup_cons]
      refine ⟨fun hm => ?_, nodup_addS r e h2⟩
      obtain ⟨x, hx, hxe⟩ := List.mem_map.1 hm
      rcases (mem_addS r e h2 x).1 hx with ⟨h3, _⟩ | ⟨h3, _⟩
      · exact h1 (List.mem_map.2 ⟨x, h3, hxe⟩)
      · exact hq (hxe.symm.trans h3)

theorem seenOk (sp : Nat → Nat × Nat) (p : Nat) : ∀ d, SeenOk sp p d ((seg sp p d).foldl addS [])
  | 0 => ⟨by simp [seg], by simp [seg], fun k _ ⟨i, h1, h2, _⟩ => by omega, fun _ _ => rfl⟩
  | d + 1 => by
    have ih := seenOk sp p d
    rw [seg, List.foldl_append]
    generalize (seg sp p d).foldl addS [] = s at ih
    show SeenOk sp p (d + 1) (addS s (rE2 sp (p + d)))
    obtain ⟨c1, c3⟩ := howAt_cases sp (p + d)
    obtain ⟨K, hK⟩ : ∃ K, (sp (p + d)).1 % 16 = K := ⟨_, rfl⟩
    have hK16 : K < 16 := by omega
    rw [hK] at c1 c3
    have hoth : ∀ k, k ≠ K → nowAt sp (p + d + 1) k = nowAt sp (p + d) k := fun k hk => nowAt_other sp (p + d) k (by rw [hK]; exact hk)
    have hei : (rE2 sp (p + d)).i = (K : Int) + 1 := by simp only [rE2]; rw [hK]
    have heh : (rE2 sp (p + d)).h = howAt sp (p + d) := rfl
    generalize rE2 sp (p + d) = e at hei heh ⊢
    have hmem := mem_addS s e ih.nodup
    refine ⟨nodup_addS s e ih.nodup, fun x hx => ?_, fun k hk ⟨i, h1, h2, h3⟩ => ?_, fun k hk => ?_⟩
    · rcases (hmem x).1 hx with ⟨h1, h2⟩ | ⟨h1, h2, h3⟩
      · obtain ⟨k, hk, e1, e2, e3⟩ := ih.all x h1
        refine ⟨k, hk, e1, e2, ?_⟩
        rw [← Nat.add_assoc, hoth k (by rintro rfl; exact h2 (by rw [e1, hei])), e3]
      · refine ⟨K, hK16, by rw [h1, hei], ?_, by rw [← Nat.add_assoc, h2, heh, c3]⟩
        rcases h3 with ⟨q, hq, h4, h5⟩ | ⟨h4, h5⟩
        · obtain ⟨k, hk, e1, e2, e3⟩ := ih.all q hq
          have : k = K := by rw [h4, hei] at e1; omega
          subst this
          rw [h5, e2]
        · rw [h5, heh, c1, ih.un K (fun x hx => by rw [← hei]; exact h4 x hx)]
    · by_cases hi : i < p + d
      · obtain ⟨x, hx, hxe⟩ := ih.there k hk ⟨i, h1, hi, h3⟩
        by_cases hkK : k = K
        · exact ⟨(e.i, x.2.1, e.h), (hmem _).2 (.inr ⟨rfl, rfl, .inl ⟨x, hx, by rw [hxe, hei, hkK], rfl⟩⟩), by rw [hkK, ← hei]⟩
        · exact ⟨x, (hmem _).2 (.inl ⟨hx, by rw [hxe, hei]; omega⟩), hxe⟩
      · have : i = p + d := by omega
        subst this
        have hkK : k = K := by rw [← h3, hK]
        subst hkK
        by_cases hq : ∃ q ∈ s, q.1 = e.i
        · obtain ⟨q, hq, h4⟩ := hq
          exact ⟨(e.i, q.2.1, e.h), (hmem _).2 (.inr ⟨rfl, rfl, .inl ⟨q, hq, h4, rfl⟩⟩), hei⟩
        · exact ⟨(e.i, e.h, e.h), (hmem _).2 (.inr ⟨rfl, rfl, .inr ⟨fun q h4 h5 => hq ⟨q, h4, h5⟩, rfl⟩⟩), hei⟩
    · have hkK : k ≠ K := by
        rintro rfl
        by_cases hq : ∃ q ∈ s, q.1 = e.i
        · obtain ⟨q, hq, h4⟩ := hq
          exact hk (e.i, q.2.1, e.h) ((hmem _).2 (.inr ⟨rfl, rfl, .inl ⟨q, hq, h4, rfl⟩⟩)) hei
        · exact hk (e.i, e.h, e.h) ((hmem _).2 (.inr ⟨rfl, rfl, .inr ⟨fun q h4 h5 => hq ⟨q, h4, h5⟩, rfl⟩⟩)) hei
      rw [← Nat.add_assoc, hoth k hkK]
      exact ih.un k fun x hx he => hk x ((hmem x).2 (.inl ⟨hx, by rw [he, hei]; omega⟩)) he

/-- What the lists of the steps from p on, ahead of p + d, say of each object. -/
structure ToldOk (sp : Nat → Nat × Nat) (p q : Nat) (t : Told) : Prop where
  made : ∀ k : Nat, k < 16 → (((k : Int) + 1) ∈ t.made → nowAt sp p k = 0 ∧ nowAt sp q k ≠ 0)
  turned : ∀ k : Nat, k < 16 → (((k : Int) + 1) ∈ t.turned → nowAt sp p k ≠ 0 ∧ nowAt sp q k ≠ 0)
  gone : ∀ k : Nat, k < 16 → (((k : Int) + 1) ∈ t.gone → nowAt sp p k ≠ 0 ∧ nowAt sp q k = 0)
  none_ : ∀ k : Nat, k < 16 → ((k : Int) + 1) ∉ t.made → ((k : Int) + 1) ∉ t.turned → ((k : Int) + 1) ∉ t.gone → nowAt sp q k = nowAt sp p k ∨ (nowAt sp p k = 0 ∧ nowAt sp q k = 0)

theorem toldOk (sp : Nat → Nat × Nat) (p d : Nat) : ToldOk sp p (p + d) (told (seg sp p d)) := by
  have hs := seenOk sp p d
  unfold told toldS
  generalize (seg sp p d).foldl addS [] = s at hs
  have hm := fun x => mem_toldS s ⟨[], [], []⟩ x
  have huniq : ∀ x k, x ∈ s → x.1 = ((k : Nat) : Int) + 1 → (x.2.1 = 1 ↔ nowAt sp p k = 0) ∧ (x.2.2 = 3 ↔ nowAt sp (p + d) k = 0) := fun x k hx hxe => by
    obtain ⟨k', _, e1, e2, e3⟩ := hs.all x hx
    have : k' = k := by omega
    subst this
    exact ⟨e2, e3⟩
  refine ⟨fun k _ h => ?_, fun k _ h => ?_, fun k _ h => ?_, fun k hk h1 h2 h3 => ?_⟩
  · rcases ((hm _).1).1 h with h | ⟨x, hx, e1, e2, e3⟩
    · simp at h
    · obtain ⟨a, b⟩ := huniq x k hx e1
      exact ⟨a.1 e2, fun h => e3 (b.2 h)⟩
  · rcases ((hm _).2.1).1 h with h | ⟨x, hx, e1, e2, e3⟩
    · simp at h
    · obtain ⟨a, b⟩ := huniq x k hx e1
      exact ⟨fun h => e2 (a.2 h), fun h => e3 (b.2 h)⟩
  · rcases ((hm _).2.2).1 h with h | ⟨x, hx, e1, e2, e3⟩
    · simp at h
    · obtain ⟨a, b⟩ := huniq x k hx e1
      exact ⟨fun h => e2 (a.2 h), b.1 e3⟩
  · by_cases hx : ∃ x ∈ s, x.1 = (k : Int) + 1
    · obtain ⟨x, hx, hxe⟩ := hx
      obtain ⟨a, b⟩ := huniq x k hx hxe
      by_cases c1 : x.2.1 = 1
      · by_cases c3 : x.2.2 = 3
        · exact .inr ⟨a.1 c1, b.1 c3⟩
        · exact absurd (((hm _).1).2 (.inr ⟨x, hx, hxe, c1, c3⟩)) h1
      · by_cases c3 : x.2.2 = 3
        · exact absurd (((hm _).2.2).2 (.inr ⟨x, hx, hxe, c1, c3⟩)) h3
        · exact absurd (((hm _).2.1).2 (.inr ⟨x, hx, hxe, c1, c3⟩)) h2
    · exact .inl (hs.un k fun x h4 h5 => hx ⟨x, h4, h5⟩)

/-! ### Since, some at a time -/
theorem seg_cons (sp : Nat → Nat × Nat) (p : Nat) : ∀ d, seg sp p (d + 1) = rE2 sp p :: seg sp (p + 1) d
  | 0 => by simp [seg]
  | d + 1 => by
    rw [seg, seg_cons sp p d, seg, List.cons_append, show p + 1 + d = p + (d + 1) from by omega]
theorem seg_more (sp : Nat → Nat × Nat) (p a : Nat) : seg sp p a ++ [rE2 sp (p + a)] = seg sp p (a + 1) := rfl

theorem told_size (l : List E4) : (told l).size ≤ l.length := by
  have h1 : ∀ (l : List E4) (s : Seen), (l.foldl addS s).length ≤ s.length + l.length := by
    intro l
    induction l with
    | nil => simp
    | cons e l ih =>
      intro s
      have := ih (addS s e)
      have h2 : ∀ (s : Seen), (addS s e).length ≤ s.length + 1 := by
        intro s
        induction s with
        | nil => simp [addS]
        | cons q r ih2 =>
          rw [addS]
          split <;> simp <;> omega
      have := h2 s
      simp only [List.foldl_cons, List.length_cons]
      omega
  have h3 : ∀ (s : Seen) (t : Told), (s.foldl toldOne t).size ≤ t.size + s.length := by
    intro s
    induction s with
    | nil => simp
    | cons p s ih =>
      intro t
      have := ih (toldOne t p)
      have h4 : (toldOne t p).size ≤ t.size + 1 := by
        unfold toldOne Told.size
        split
        · omega
        · split
          · simp; omega
          · split <;> simp <;> omega
      simp only [List.foldl_cons, List.length_cons]
      omega
  have h5 := h1 l []
  have h6 := h3 (l.foldl addS []) ⟨[], [], []⟩
  simp only [List.length_nil, Told.size, Nat.zero_add] at h5 h6
  unfold told toldS Told.size
  omega

theorem loopP_seg (sp : Nat → Nat × Nat) (clock most : Int) (p : Nat) : ∀ (f a r : Nat) (last : Int), r ≤ f → (0 < a → last = ((p + a : Nat) : Int) + 1) → (a = 0 → last = (p : Int) + 1) →
    (p + a + r : Nat) + 1 = clock → ∃ d, a ≤ d ∧ d ≤ a + r ∧ (0 < d ∨ a + r = 0) ∧
      loopP ((p : Int) + 1) clock most f (seg sp p a) (seg sp (p + a) r) (told (seg sp p a)) last = ⟨told (seg sp p d), ((p + d : Nat) : Int) + 1, decide (d < a + r), 0⟩
  | 0, a, r, last, h, _, _, hc => by
    have : r = 0 := by omega
    subst this
    refine ⟨a, Nat.le_refl _, by omega, by omega, ?_⟩
    rw [loopP]
    simp only [Nat.add_zero, Nat.lt_irrefl, decide_false]
    congr 1
    omega
  | f + 1, a, 0, last, h, _, _, hc => by
    refine ⟨a, Nat.le_refl _, by omega, by omega, ?_⟩
    simp only [seg, loopP, Nat.add_zero, Nat.lt_irrefl, decide_false]
    congr 1
    omega
  | f + 1, a, r + 1, last, h, hl1, hl0, hc => by
    rw [seg_cons, loopP]
    have htw : (rE2 sp (p + a) :: seg sp (p + a + 1) r).takeWhile (fun e => e.m == (rE2 sp (p + a)).m) = [rE2 sp (p + a)] := by
      rw [List.takeWhile_cons]
      simp only [beq_self_eq_true, if_true]
      congr 1
      cases r with
      | zero => rfl
      | succ r =>
        rw [seg_cons, List.takeWhile_cons]
        have : ((rE2 sp (p + a + 1)).m == (rE2 sp (p + a)).m) = false := by
          rw [beq_eq_false_iff_ne]
          simp only [rE2]
          omega
        rw [this]
        rfl
    simp only [htw, List.length_singleton, List.drop_succ_cons, List.drop_zero, seg_more]
    split
    · rename_i hm
      have ha : 0 < a := by
        rcases Nat.eq_zero_or_pos a with h0 | h0
        · subst h0
          have := told_size (seg sp p (0 + 1))
          rw [seg_length] at this
          omega
        · exact h0
      have hl := hl1 ha
      rw [if_neg (by rw [hl]; omega)]
      refine ⟨a, Nat.le_refl _, by omega, .inl ha, ?_⟩
      rw [hl, decide_eq_true (by omega)]
    · obtain ⟨d, h1, h2, h3, h4⟩ := loopP_seg sp clock most p f (a + 1) r (rE2 sp (p + a)).m (by omega) (fun _ => by simp only [rE2]; omega) (by omega) (by rw [← hc]; omega)
      refine ⟨d, by omega, by omega, .inl (by omega), ?_⟩
      rw [show p + (a + 1) = p + a + 1 from by omega] at h4
      rw [h4]
      have : decide (d < a + 1 + r) = decide (d < a + (r + 1)) := decide_eq_decide.2 (by omega)
      rw [this]

/-- What a Since of a world answers. -/
theorem since_seg (sp : Nat → Nat × Nat) (n p : Nat) (most : Int) (hp : p ≤ n) : ∃ q, p ≤ q ∧ q ≤ n ∧ (p < q ∨ p = n) ∧
    LogV.since ⟨1000, rEs sp n, 0⟩ 2 ((p : Int) + 1) ((n : Int) + 1) most = ⟨told (seg sp p (q - p)), (q : Int) + 1, decide (q < n), 0⟩ := by
  obtain ⟨d, h1, h2, h3, h4⟩ := loopP_seg sp ((n : Int) + 1) most p (n - p) 0 (n - p) ((p : Int) + 1) (Nat.le_refl _) (by omega) (by omega) (by omega)
  refine ⟨p + d, by omega, by omega, by omega, ?_⟩
  unfold LogV.since
  rw [if_neg (by simp only; omega)]
  simp only [rEs_filter sp p ((n : Int) + 1) n (Int.le_refl _), seg_length]
  simp only [seg, Nat.add_zero, Nat.zero_add] at h4
  rw [show told [] = ⟨[], [], []⟩ from rfl] at h4
  rw [h4, show p + d - p = d from by omega]
  have : decide (d < n - p) = decide (p + d < n) := decide_eq_decide.2 (by omega)
  rw [this]

end Go.Proofs.Ytkgpflobbmagaaa
