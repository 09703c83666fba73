/-
  The plain account: its mailboxes as maps, what holds of every account that the steps make.
-/
import Derived.Test.YtmbibhphpjmboaaGreatDoorStorePlain
namespace Go.Proofs.YtmbibhphpjmboaaGreatDoor

def ids (l : List BoxP) : List Int := l.map (·.id)
theorem hasBox_iff (l : List BoxP) (id : Int) : hasBox l id = true ↔ id ∈ ids l := by
  simp [hasBox, ids]

/-! ### The first of an Id -/
theorem setBox_length (id : Int) (f : BoxP → BoxP) : ∀ l, (setBox id f l).length = l.length
  | [] => rfl
  | b :: r => by
    unfold setBox
    split
    · rfl
    · rw [List.length_cons, List.length_cons, setBox_length id f r]
theorem setBox_none (id : Int) (f : BoxP → BoxP) : ∀ l, id ∉ ids l → setBox id f l = l
  | [], _ => rfl
  | b :: r, h => by
    have h1 : ¬ b.id = id := fun e => h (by simp [ids, e])
    have h2 : id ∉ ids r := fun e => h (by simp only [ids, List.map_cons, List.mem_cons]; exact .inr e)
    rw [setBox, if_neg h1, setBox_none id f r h2]
theorem setBox_map (id : Int) (f : BoxP → BoxP) : ∀ l, (ids l).Nodup → setBox id f l = l.map (fun b => if b.id = id then f b else b)
  | [], _ => rfl
  | b :: r, h => by
    have h' : b.id ∉ ids r ∧ (ids r).Nodup := by simpa [ids] using h
    by_cases he : b.id = id
    · have hr : ∀ c ∈ r, ¬ c.id = id := fun c hc e => h'.1 (by rw [he, ← e]; exact List.mem_map_of_mem hc)
      rw [setBox, if_pos he, List.map_cons, if_pos he]
      congr 1
      conv => lhs; rw [← List.map_id r]
      exact List.map_congr_left fun c hc => by simp [hr c hc]
    · rw [setBox, if_neg he, List.map_cons, if_neg he, setBox_map id f r h'.2]
theorem ids_map (l : List BoxP) (f : BoxP → BoxP) (hf : ∀ b, (f b).id = b.id) : ids (l.map f) = ids l := by
  simp only [ids, List.map_map]
  exact List.map_congr_left fun b _ => hf b

/-- Mailboxes turned, as a map. -/
theorem turnBoxes_map (mod : Int) : ∀ (is : List Int) (l : List BoxP), (ids l).Nodup → turnBoxes mod is l = l.map (fun b => if b.id ∈ is then { b with mod := mod } else b)
  | [], l, _ => by simp [turnBoxes]
  | i :: r, l, h => by
    have h1 := setBox_map i (fun b => { b with mod := mod }) l h
    have h2 : turnBoxes mod (i :: r) l = turnBoxes mod r (setBox i (fun b => { b with mod := mod }) l) := rfl
    rw [h2, h1, turnBoxes_map mod r _ (by rw [ids_map]; exact h; intro b; split <;> rfl), List.map_map]
    refine List.map_congr_left fun b _ => ?_
    by_cases hb : b.id = i
    · by_cases hr : b.id ∈ r
      · simp [hb]
      · simp [hb]
    · simp [hb]

theorem nextOf_mem {l : List BoxP} (h : (ids l).Nodup) {b : BoxP} (hb : b ∈ l) : nextOf l b.id = b.next := by
  have : l.find? (fun c => decide (c.id = b.id)) = some b := by
    induction l with
    | nil => cases hb
    | cons c r ih =>
      have h' : c.id ∉ ids r ∧ (ids r).Nodup := by simpa [ids] using h
      rcases List.mem_cons.1 hb with rfl | hb
      · simp
      · have hne : ¬ c.id = b.id := fun e => h'.1 (by rw [e]; exact List.mem_map_of_mem hb)
        rw [List.find?_cons_of_neg (by simpa using hne)]
        exact ih h'.2 hb
  rw [nextOf, this]

def bumpAll (is : List Int) (l : List BoxP) : List BoxP := l.map fun b => if b.id ∈ is then { b with next := b.next + 1 } else b
theorem ids_bumpAll (is : List Int) (l : List BoxP) : ids (bumpAll is l) = ids l := ids_map l _ fun b => by split <;> rfl
theorem nextOf_bump_other {l : List BoxP} (h : (ids l).Nodup) (i j : Int) (hij : i ≠ j) : nextOf (bump i l) j = nextOf l j := by
  rw [bump, setBox_map _ _ _ h]
  unfold nextOf
  induction l with
  | nil => rfl
  | cons c r ih =>
    have h' : c.id ∉ ids r ∧ (ids r).Nodup := by simpa [ids] using h
    by_cases hc : c.id = j
    · have hci : ¬ c.id = i := fun e => hij (e.symm.trans hc)
      subst hc
      simp [hci]
    · have h1 : ¬ (if c.id = i then { c with next := c.next + 1 } else c).id = j := by
        split
        · exact hc
        · exact hc
      rw [List.map_cons, List.find?_cons_of_neg (by simpa using h1), List.find?_cons_of_neg (by simpa using hc)]
      exact ih h'.2
theorem numbers_from : ∀ (is : List Int) (l : List BoxP) (acc : List (Int × Int)), (ids l).Nodup → is.Nodup →
    is.foldl (fun s id => (bump id s.1, s.2 ++ [(id, nextOf s.1 id)])) (l, acc) = (bumpAll is l, acc ++ is.map fun id => (id, nextOf l id))
  | [], l, acc, _, _ => by simp [bumpAll]
  | i :: r, l, acc, h, hn => by
    have hn' : i ∉ r ∧ r.Nodup := by simpa using hn
    have hb : bump i l = l.map (fun b => if b.id = i then { b with next := b.next + 1 } else b) := setBox_map i _ l h
    have hnd : (ids (bump i l)).Nodup := by rw [hb, ids_map]; exact h; intro b; split <;> rfl
    rw [List.foldl_cons, numbers_from r (bump i l) _ hnd hn'.2]
    refine Prod.ext ?_ ?_
    · simp only [bumpAll]
      rw [hb, List.map_map]
      refine List.map_congr_left fun b _ => ?_
      by_cases hbi : b.id = i
      · subst hbi
        simp [hn'.1]
      · simp [hbi]
    · simp only [List.append_assoc, List.map_cons, List.cons_append, List.nil_append]
      congr 2
      exact List.map_congr_left fun j hj => by rw [nextOf_bump_other h i j (fun e => hn'.1 (e ▸ hj))]
theorem numbers_eq (is : List Int) (l : List BoxP) (h : (ids l).Nodup) (hn : is.Nodup) : numbers is l = (bumpAll is l, is.map fun id => (id, nextOf l id)) := by
  unfold numbers
  rw [numbers_from is l [] h hn, List.nil_append]

/-! ### Rising numbers -/
theorem mem_insI (x y : Int) : ∀ l, y ∈ insI x l ↔ y = x ∨ y ∈ l
  | [] => by simp [insI]
  | z :: r => by
    unfold insI
    split
    · simp
    · split
      · rename_i h; subst h; simp
      · simp only [List.mem_cons, mem_insI x y r]
        constructor
        · rintro (h | h | h)
          · exact .inr (.inl h)
          · exact .inl h
          · exact .inr (.inr h)
        · rintro (h | h | h)
          · exact .inr (.inl h)
          · exact .inl h
          · exact .inr (.inr h)
theorem insI_sorted (x : Int) : ∀ l : List Int, l.Pairwise (· < ·) → (insI x l).Pairwise (· < ·)
  | [], _ => by simp [insI]
  | z :: r, h => by
    obtain ⟨h1, h2⟩ := List.pairwise_cons.1 h
    unfold insI
    split
    · rename_i hx
      refine List.pairwise_cons.2 ⟨fun y hy => ?_, h⟩
      rcases List.mem_cons.1 hy with rfl | hy
      · exact hx
      · have := h1 y hy
        omega
    · split
      · exact h
      · refine List.pairwise_cons.2 ⟨fun y hy => ?_, insI_sorted x r h2⟩
        rcases (mem_insI x y r).1 hy with rfl | hy
        · omega
        · exact h1 y hy
theorem rise_from : ∀ (l acc : List Int), acc.Pairwise (· < ·) → (l.foldl (fun acc x => insI x acc) acc).Pairwise (· < ·) ∧ ∀ y, y ∈ l.foldl (fun acc x => insI x acc) acc ↔ y ∈ acc ∨ y ∈ l
  | [], acc, h => by simp [h]
  | x :: r, acc, h => by
    obtain ⟨h1, h2⟩ := rise_from r (insI x acc) (insI_sorted x acc h)
    refine ⟨h1, fun y => ?_⟩
    rw [List.foldl_cons, h2, mem_insI, List.mem_cons]
    constructor
    · rintro ((h | h) | h)
      · exact .inr (.inl h)
      · exact .inl h
      · exact .inr (.inr h)
    · rintro (h | h | h)
      · exact .inl (.inr h)
      · exact .inl (.inl h)
      · exact .inr h
theorem rise_sorted (l : List Int) : (rise l).Pairwise (· < ·) := (rise_from l [] List.Pairwise.nil).1
theorem mem_rise (l : List Int) (y : Int) : y ∈ rise l ↔ y ∈ l := by
  have := (rise_from l [] List.Pairwise.nil).2 y
  simpa [rise] using this
theorem nodup_of_rising {l : List Int} (h : l.Pairwise (· < ·)) : l.Nodup := h.imp fun hab => by omega
theorem rise_nodup (l : List Int) : (rise l).Nodup := nodup_of_rising (rise_sorted l)
/-- Two rising lists of the same numbers are one. -/
theorem rising_unique : ∀ {l m : List Int}, l.Pairwise (· < ·) → m.Pairwise (· < ·) → (∀ y, y ∈ l ↔ y ∈ m) → l = m
  | [], [], _, _, _ => rfl
  | [], y :: m, _, _, h => by have := (h y).2 (by simp); simp at this
  | x :: l, [], _, _, h => by have := (h x).1 (by simp); simp at this
  | x :: l, y :: m, hl, hm, h => by
    obtain ⟨a1, a2⟩ := List.pairwise_cons.1 hl
    obtain ⟨b1, b2⟩ := List.pairwise_cons.1 hm
    have hxy : x = y := by
      have h1 := (h x).1 (by simp)
      have h2 := (h y).2 (by simp)
      rcases List.mem_cons.1 h1 with h1 | h1
      · exact h1
      · rcases List.mem_cons.1 h2 with h2 | h2
        · exact h2.symm
        · have := b1 x h1
          have := a1 y h2
          omega
    subst hxy
    rw [rising_unique a2 b2 fun z => ?_]
    constructor
    · intro hz
      have h1 := (h z).1 (List.mem_cons_of_mem _ hz)
      rcases List.mem_cons.1 h1 with rfl | h1
      · have := a1 z hz
        omega
      · exact h1
    · intro hz
      have h1 := (h z).2 (List.mem_cons_of_mem _ hz)
      rcases List.mem_cons.1 h1 with rfl | h1
      · have := b1 z hz
        omega
      · exact h1
theorem rise_self {l : List Int} (h : l.Pairwise (· < ·)) : rise l = l := rising_unique (rise_sorted l) h (mem_rise l)
theorem rise_length (l : List Int) : (rise l).length ≤ l.length := by
  have h : ∀ (l acc : List Int), (l.foldl (fun acc x => insI x acc) acc).length ≤ acc.length + l.length := by
    intro l
    induction l with
    | nil => intro acc; simp
    | cons x r ih =>
      intro acc
      have h1 := ih (insI x acc)
      have h2 : (insI x acc).length ≤ acc.length + 1 := by
        clear h1 ih
        induction acc with
        | nil => simp [insI]
        | cons y acc ih2 =>
          unfold insI
          split
          · simp
          · split
            · simp
            · simp only [List.length_cons]; omega
      rw [List.foldl_cons, List.length_cons]
      omega
  simpa [rise] using h l []

end Go.Proofs.YtmbibhphpjmboaaGreatDoor
