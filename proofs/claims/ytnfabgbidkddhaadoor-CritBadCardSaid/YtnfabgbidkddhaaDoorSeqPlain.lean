/-
  Plain laws of sets of numbers: ranges that are apart and rising say a set in one way; the program's merge and the reference's give that. No condition.
-/
import Derived.Lib.Hide
namespace Go.Proofs.YtnfabgbidkddhaaDoor

abbrev Rg := Int × Int

def Canon (l : List Rg) : Prop := l.Pairwise (fun x y => x.2 + 1 < y.1) ∧ ∀ x ∈ l, x.1 ≤ x.2
def Has (l : List Rg) (n : Int) : Prop := ∃ x ∈ l, x.1 ≤ n ∧ n ≤ x.2

theorem has_nil (n : Int) : ¬ Has [] n := by rintro ⟨x, hx, _⟩; cases hx

theorem has_cons (x : Rg) (l : List Rg) (n : Int) : Has (x :: l) n ↔ (x.1 ≤ n ∧ n ≤ x.2) ∨ Has l n := by
  constructor
  · rintro ⟨y, hy, h⟩
    rcases List.mem_cons.mp hy with rfl | hy
    · exact .inl h
    · exact .inr ⟨y, hy, h⟩
  · rintro (h | ⟨y, hy, h⟩)
    · exact ⟨x, List.mem_cons_self, h⟩
    · exact ⟨y, List.mem_cons_of_mem _ hy, h⟩

theorem has_append (l m : List Rg) (n : Int) : Has (l ++ m) n ↔ Has l n ∨ Has m n := by
  induction l with
  | nil => simp [has_nil]
  | cons x l ih => rw [List.cons_append, has_cons, has_cons, ih, or_assoc]

theorem has_one (x : Rg) (n : Int) : Has [x] n ↔ x.1 ≤ n ∧ n ≤ x.2 := by
  rw [has_cons]; simp [has_nil]

theorem canon_tail {x : Rg} {l : List Rg} (h : Canon (x :: l)) : Canon l :=
  ⟨(List.pairwise_cons.mp h.1).2, fun y hy => h.2 y (List.mem_cons_of_mem _ hy)⟩

theorem canon_low {x : Rg} {l : List Rg} (h : Canon (x :: l)) {n : Int} (hn : Has l n) : x.2 + 1 < n := by
  obtain ⟨y, hy, h1, _⟩ := hn
  have := (List.pairwise_cons.mp h.1).1 y hy
  omega

theorem canon_unique : ∀ {l m : List Rg}, Canon l → Canon m → (∀ n, Has l n ↔ Has m n) → l = m
  | [], [], _, _, _ => rfl
  | [], y :: m, _, hm, h => by
    have := hm.2 y List.mem_cons_self
    exact absurd ((h y.1).mpr ((has_cons _ _ _).mpr (.inl ⟨Int.le_refl _, this⟩))) (has_nil _)
  | x :: l, [], hl, _, h => by
    have := hl.2 x List.mem_cons_self
    exact absurd ((h x.1).mp ((has_cons _ _ _).mpr (.inl ⟨Int.le_refl _, this⟩))) (has_nil _)
  | x :: l, y :: m, hl, hm, h => by
    have hx := hl.2 x List.mem_cons_self
    have hy := hm.2 y List.mem_cons_self
    have ha : y.1 ≤ x.1 := by
      rcases (has_cons _ _ _).mp ((h x.1).mp ((has_cons _ _ _).mpr (.inl ⟨Int.le_refl _, hx⟩))) with h1 | h1
      · exact h1.1
      · have := canon_low hm h1; omega
    have hb : x.1 ≤ y.1 := by
      rcases (has_cons _ _ _).mp ((h y.1).mpr ((has_cons _ _ _).mpr (.inl ⟨Int.le_refl _, hy⟩))) with h1 | h1
      · exact h1.1
      · have := canon_low hl h1; omega
    have hc : ¬ x.2 < y.2 := fun hlt => by
      rcases (has_cons _ _ _).mp ((h (x.2 + 1)).mpr ((has_cons _ _ _).mpr (.inl ⟨by omega, by omega⟩))) with h1 | h1
      · omega
      · have := canon_low hl h1; omega
    have hd : ¬ y.2 < x.2 := fun hlt => by
      rcases (has_cons _ _ _).mp ((h (y.2 + 1)).mp ((has_cons _ _ _).mpr (.inl ⟨by omega, by omega⟩))) with h1 | h1
      · omega
      · have := canon_low hm h1; omega
    have hxy : x = y := Prod.ext (by omega) (by omega)
    subst hxy
    rw [canon_unique (canon_tail hl) (canon_tail hm) fun n => ?_]
    constructor
    · intro hn
      have h2 := canon_low hl hn
      rcases (has_cons _ _ _).mp ((h n).mp ((has_cons _ _ _).mpr (.inr hn))) with h1 | h1
      · omega
      · exact h1
    · intro hn
      have h2 := canon_low hm hn
      rcases (has_cons _ _ _).mp ((h n).mpr ((has_cons _ _ _).mpr (.inr hn))) with h1 | h1
      · omega
      · exact h1

/- the program's merge: over a sorted list -/
def mStep (out : List Rg) (r : Rg) : List Rg :=
  match out.getLast? with
  | some t => if r.1 - 1 ≤ t.2 then out.dropLast ++ [(t.1, max t.2 r.2)] else out ++ [r]
  | none => [r]

def mGo (l : List Rg) : List Rg := l.foldl mStep []

theorem canon_snoc {l : List Rg} {x : Rg} : Canon (l ++ [x]) ↔ Canon l ∧ (∀ y ∈ l, y.2 + 1 < x.1) ∧ x.1 ≤ x.2 := by
  unfold Canon
  rw [List.pairwise_append]
  simp only [List.pairwise_cons, List.mem_singleton, List.mem_append]
  constructor
  · rintro ⟨⟨h1, _, h2⟩, h3⟩
    exact ⟨⟨h1, fun y hy => h3 y (.inl hy)⟩, fun y hy => h2 y hy x rfl, h3 x (.inr rfl)⟩
  · rintro ⟨⟨h1, h3⟩, h2, h4⟩
    exact ⟨⟨h1, ⟨by simp, List.Pairwise.nil⟩, fun y hy z hz => hz ▸ h2 y hy⟩, fun y hy => by exact hy.elim (h3 y) fun e => e ▸ h4⟩

theorem canon_last {l : List Rg} {x : Rg} (h : Canon (l ++ [x])) : ∀ y ∈ l ++ [x], y.2 ≤ x.2 := by
  intro y hy
  obtain ⟨h1, h2, h3⟩ := canon_snoc.mp h
  rcases List.mem_append.mp hy with hy | hy
  · have := h2 y hy; omega
  · rw [List.mem_singleton.mp hy]; exact Int.le_refl _

theorem mStep_ok (out : List Rg) (r : Rg) (ho : Canon out) (hr : r.1 ≤ r.2) (hlow : ∀ y ∈ out, y.1 ≤ r.1) :
    Canon (mStep out r) ∧ (∀ n, Has (mStep out r) n ↔ Has out n ∨ (r.1 ≤ n ∧ n ≤ r.2)) ∧ ∀ y ∈ mStep out r, y.1 ≤ r.1 := by
  unfold mStep
  rcases List.eq_nil_or_concat out with rfl | ⟨o, t, rfl⟩
  · refine ⟨⟨List.pairwise_cons.mpr ⟨by simp, List.Pairwise.nil⟩, by simpa using hr⟩, fun n => ?_, by simp⟩
    simp [has_one, has_nil]
  · simp only [List.concat_eq_append, List.getLast?_append, List.getLast?_singleton, Option.some_or, List.dropLast_concat] at *
    obtain ⟨h1, h2, h3⟩ := canon_snoc.mp ho
    have ht := hlow t (by simp)
    by_cases hc : r.1 - 1 ≤ t.2
    · rw [if_pos hc]
      refine ⟨canon_snoc.mpr ⟨h1, h2, ?_⟩, fun n => ?_, ?_⟩
      · show t.1 ≤ max t.2 r.2
        omega
      · rw [has_append, has_append, has_one, has_one]
        show _ ∨ (t.1 ≤ n ∧ n ≤ max t.2 r.2) ↔ _
        constructor
        · rintro (h | h)
          · exact .inl (.inl h)
          · by_cases hn : n ≤ t.2
            · exact .inl (.inr ⟨h.1, hn⟩)
            · exact .inr ⟨by omega, by omega⟩
        · rintro ((h | h) | h)
          · exact .inl h
          · exact .inr ⟨h.1, by omega⟩
          · exact .inr ⟨by omega, by omega⟩
      · intro y hy
        rcases List.mem_append.mp hy with hy | hy
        · exact hlow y (by simp [hy])
        · rw [List.mem_singleton.mp hy]; exact ht
    · rw [if_neg hc]
      refine ⟨canon_snoc.mpr ⟨ho, fun y hy => ?_, hr⟩, fun n => ?_, ?_⟩
      · have := canon_last ho y hy; omega
      · rw [has_append, has_one]
      · intro y hy
        rcases List.mem_append.mp hy with hy | hy
        · exact hlow y hy
        · rw [List.mem_singleton.mp hy]; exact Int.le_refl _

theorem mFold_ok : ∀ (l out : List Rg), Canon out → (∀ x ∈ l, x.1 ≤ x.2) → l.Pairwise (fun x y => x.1 ≤ y.1) → (∀ y ∈ out, ∀ x ∈ l, y.1 ≤ x.1) →
    Canon (l.foldl mStep out) ∧ (∀ n, Has (l.foldl mStep out) n ↔ Has out n ∨ Has l n) ∧ (l.foldl mStep out).length ≤ out.length + l.length
  | [], out, h1, _, _, _ => ⟨h1, fun n => by simp [has_nil], by simp⟩
  | x :: l, out, h1, h2, h3, h4 => by
    obtain ⟨a, b, c⟩ := mStep_ok out x h1 (h2 x List.mem_cons_self) fun y hy => h4 y hy x List.mem_cons_self
    have h3' := List.pairwise_cons.mp h3
    obtain ⟨d, e, f⟩ := mFold_ok l (mStep out x) a (fun y hy => h2 y (List.mem_cons_of_mem _ hy)) h3'.2 fun y hy z hz => Int.le_trans (c y hy) (h3'.1 z hz)
    refine ⟨d, fun n => ?_, ?_⟩
    · rw [List.foldl_cons, e, b, has_cons, or_assoc]
    · have : (mStep out x).length ≤ out.length + 1 := by
        unfold mStep
        rcases List.eq_nil_or_concat out with rfl | ⟨o, t, rfl⟩
        · simp
        · simp only [List.concat_eq_append, List.getLast?_append, List.getLast?_singleton, Option.some_or, List.dropLast_concat]
          split <;> simp
      rw [List.foldl_cons, List.length_cons]
      omega

theorem mGo_ok (l : List Rg) (h2 : ∀ x ∈ l, x.1 ≤ x.2) (h3 : l.Pairwise (fun x y => x.1 ≤ y.1)) :
    Canon (mGo l) ∧ (∀ n, Has (mGo l) n ↔ Has l n) ∧ (mGo l).length ≤ l.length := by
  obtain ⟨a, b, c⟩ := mFold_ok l [] ⟨List.Pairwise.nil, by simp⟩ h2 h3 (by simp)
  exact ⟨a, fun n => by rw [mGo, b]; simp [has_nil], by simpa [mGo] using c⟩

/- the reference's merge: each range put in -/
structure Ins where
  x : Rg
  next : List Rg
  put : Bool

def iStep (s : Ins) (y : Rg) : Ins :=
  if y.2 < s.x.1 - 1 then { s with next := s.next ++ [y] }
  else if s.x.2 < y.1 - 1 then { x := s.x, next := (if s.put then s.next else s.next ++ [s.x]) ++ [y], put := true }
  else { s with x := (min s.x.1 y.1, max s.x.2 y.2) }

def iEnd (s : Ins) : List Rg := if s.put then s.next else s.next ++ [s.x]
def iOut (s : Ins) (l : List Rg) : List Rg := iEnd (l.foldl iStep s)
def rStep (out : List Rg) (x : Rg) : List Rg :=
  let x' : Rg := (max x.1 1, x.2)
  if x'.2 < x'.1 then out else iOut ⟨x', [], false⟩ out
def rGo (l : List Rg) : List Rg := l.foldl rStep []

theorem iOut_ok : ∀ (l : List Rg) (s : Ins), Canon (s.next ++ l) → s.x.1 ≤ s.x.2 → (s.put = false → ∀ y ∈ s.next, y.2 + 1 < s.x.1) → (s.put = true → s.x ∈ s.next) →
    Canon (iOut s l) ∧ ∀ n, Has (iOut s l) n ↔ Has s.next n ∨ (s.x.1 ≤ n ∧ n ≤ s.x.2) ∨ Has l n
  | [], s, h1, h2, h3, h4 => by
    unfold iOut iEnd
    simp only [List.append_nil, List.foldl_nil] at *
    rcases Bool.eq_false_or_eq_true s.put with hp | hp
    rotate_left
    · simp only [hp, Bool.false_eq_true, if_false]
      refine ⟨canon_snoc.mpr ⟨h1, h3 hp, h2⟩, fun n => ?_⟩
      rw [has_append, has_one]; simp [has_nil]
    · simp only [hp, if_true]
      refine ⟨h1, fun n => ?_⟩
      simp only [has_nil, or_false]
      exact ⟨.inl, fun h => h.elim id fun h => ⟨s.x, h4 hp, h⟩⟩
  | y :: l, s, h1, h2, h3, h4 => by
    have hu : iOut s (y :: l) = iOut (iStep s y) l := rfl
    rw [hu]
    have hA : ∀ z ∈ s.next, z.2 + 1 < y.1 := fun z hz => (List.pairwise_append.mp h1.1).2.2 z hz y List.mem_cons_self
    have hy : y.1 ≤ y.2 := h1.2 y (by simp)
    have hnl : Canon (s.next ++ l) := by
      refine ⟨?_, fun z hz => h1.2 z (by rcases List.mem_append.mp hz with h | h <;> simp [h])⟩
      exact h1.1.sublist (List.Sublist.append_left (List.sublist_cons_self y l) _)
    unfold iStep
    by_cases c1 : y.2 < s.x.1 - 1
    · rw [if_pos c1]
      obtain ⟨a, b⟩ := iOut_ok l { s with next := s.next ++ [y] } (by simpa using h1) h2 (fun hp z hz => by
        rcases List.mem_append.mp hz with hz | hz
        · exact h3 hp z hz
        · rw [List.mem_singleton.mp hz]; show y.2 + 1 < s.x.1; omega) (fun hp => List.mem_append_left _ (h4 hp))
      refine ⟨a, fun n => ?_⟩
      rw [b, has_cons, has_append, has_one]
      show (Has s.next n ∨ _) ∨ (s.x.1 ≤ n ∧ n ≤ s.x.2) ∨ Has l n ↔ _
      grind
    · rw [if_neg c1]
      by_cases c2 : s.x.2 < y.1 - 1
      · rw [if_pos c2]
        rcases Bool.eq_false_or_eq_true s.put with hp | hp
        rotate_left
        · simp only [hp, Bool.false_eq_true, if_false]
          have hcan : Canon ((s.next ++ [s.x] ++ [y]) ++ l) := by
            have e : (s.next ++ [s.x] ++ [y]) ++ l = s.next ++ (s.x :: y :: l) := by simp
            rw [e]
            obtain ⟨p1, p2, p3⟩ := List.pairwise_append.mp h1.1
            refine ⟨List.pairwise_append.mpr ⟨p1, List.pairwise_cons.mpr ⟨fun z hz => ?_, p2⟩, fun z hz u hu => ?_⟩, fun z hz => ?_⟩
            · rcases List.mem_cons.mp hz with rfl | hz
              · omega
              · have := (List.pairwise_cons.mp p2).1 z hz; omega
            · rcases List.mem_cons.mp hu with rfl | hu
              · exact h3 hp z hz
              · exact p3 z hz u hu
            · rcases List.mem_append.mp hz with hz | hz
              · exact h1.2 z (by simp [hz])
              · rcases List.mem_cons.mp hz with rfl | hz
                · exact h2
                · exact h1.2 z (by rw [List.mem_append]; exact .inr hz)
          obtain ⟨a, b⟩ := iOut_ok l ⟨s.x, s.next ++ [s.x] ++ [y], true⟩ hcan h2 (by simp) (by simp)
          refine ⟨a, fun n => ?_⟩
          rw [b, has_cons, has_append, has_append, has_one, has_one]
          show ((Has s.next n ∨ _) ∨ _) ∨ (s.x.1 ≤ n ∧ n ≤ s.x.2) ∨ Has l n ↔ _
          grind
        · simp only [hp, if_true]
          obtain ⟨a, b⟩ := iOut_ok l ⟨s.x, s.next ++ [y], true⟩ (by simpa using h1) h2 (by simp) (fun _ => List.mem_append_left _ (h4 hp))
          refine ⟨a, fun n => ?_⟩
          rw [b, has_cons, has_append, has_one]
          show (Has s.next n ∨ _) ∨ (s.x.1 ≤ n ∧ n ≤ s.x.2) ∨ Has l n ↔ _
          grind
      · rw [if_neg c2]
        have hpf : s.put = false := by
          cases hp : s.put
          · rfl
          · have := hA s.x (h4 hp); omega
        obtain ⟨a, b⟩ := iOut_ok l { s with x := (min s.x.1 y.1, max s.x.2 y.2) } hnl (by show min s.x.1 y.1 ≤ max s.x.2 y.2; omega) (fun hp z hz => by
          have k1 := h3 hp z hz
          have k2 := hA z hz
          show z.2 + 1 < min s.x.1 y.1
          omega) (fun hp => by rw [show ({ s with x := (min s.x.1 y.1, max s.x.2 y.2) } : Ins).put = s.put from rfl, hpf] at hp; cases hp)
        refine ⟨a, fun n => ?_⟩
        rw [b, has_cons]
        show Has s.next n ∨ (min s.x.1 y.1 ≤ n ∧ n ≤ max s.x.2 y.2) ∨ Has l n ↔ _
        have : (min s.x.1 y.1 ≤ n ∧ n ≤ max s.x.2 y.2) ↔ (s.x.1 ≤ n ∧ n ≤ s.x.2) ∨ (y.1 ≤ n ∧ n ≤ y.2) := by omega
        rw [this]; grind

theorem rFold_ok : ∀ (l out : List Rg), Canon out → Canon (l.foldl rStep out) ∧ ∀ n, Has (l.foldl rStep out) n ↔ Has out n ∨ (1 ≤ n ∧ Has l n)
  | [], out, h => ⟨h, fun n => by simp [has_nil]⟩
  | x :: l, out, h => by
    have hs : Canon (rStep out x) ∧ ∀ n, Has (rStep out x) n ↔ Has out n ∨ (1 ≤ n ∧ x.1 ≤ n ∧ n ≤ x.2) := by
      unfold rStep
      by_cases hc : x.2 < max x.1 1
      · rw [if_pos hc]
        exact ⟨h, fun n => ⟨.inl, fun k => k.elim id fun k => by omega⟩⟩
      · rw [if_neg hc]
        obtain ⟨a, b⟩ := iOut_ok out ⟨(max x.1 1, x.2), [], false⟩ (by simpa using h) (by show max x.1 1 ≤ x.2; omega) (by simp) (by simp)
        refine ⟨a, fun n => ?_⟩
        rw [b]
        show Has [] n ∨ (max x.1 1 ≤ n ∧ n ≤ x.2) ∨ Has out n ↔ _
        have : (max x.1 1 ≤ n ∧ n ≤ x.2) ↔ (1 ≤ n ∧ x.1 ≤ n ∧ n ≤ x.2) := by omega
        rw [this]; simp only [has_nil]; grind
    obtain ⟨a, b⟩ := rFold_ok l (rStep out x) hs.1
    refine ⟨a, fun n => ?_⟩
    rw [List.foldl_cons, b, hs.2, has_cons]; grind

theorem rGo_ok (l : List Rg) : Canon (rGo l) ∧ ∀ n, Has (rGo l) n ↔ 1 ≤ n ∧ Has l n := by
  obtain ⟨a, b⟩ := rFold_ok l [] ⟨List.Pairwise.nil, by simp⟩
  exact ⟨a, fun n => by rw [rGo, b]; simp [has_nil]⟩

/-- The two merges are one: the program's over the sorted, clipped list, the reference's over the list as it came. -/
theorem merge_same (l m : List Rg) (h2 : ∀ x ∈ m, x.1 ≤ x.2) (h3 : m.Pairwise (fun x y => x.1 ≤ y.1)) (hh : ∀ n, Has m n ↔ 1 ≤ n ∧ Has l n) : mGo m = rGo l := by
  obtain ⟨a, b, _⟩ := mGo_ok m h2 h3
  obtain ⟨c, d⟩ := rGo_ok l
  exact canon_unique a c fun n => by rw [b, d, hh]

end Go.Proofs.YtnfabgbidkddhaaDoor
