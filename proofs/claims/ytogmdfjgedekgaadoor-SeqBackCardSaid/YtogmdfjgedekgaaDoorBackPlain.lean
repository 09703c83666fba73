/-
  Plain laws: the text of rising numbers says just those. No condition but that they rise.
-/
import Derived.Test.YtogmdfjgedekgaaDoorSeqTurns
namespace Go.Proofs.YtogmdfjgedekgaaDoor
open Go.Lib

/-- One number more, by its gap. -/
def gStep (s : List Int × Int) (g : Int) : List Int × Int := (s.1 ++ [s.2 + 1 + g % 4], s.2 + 1 + g % 4)

/-- Numbers that rise, the last of them known. -/
structure Ris (l : List Int) (n : Int) : Prop where
  up : l.Pairwise (· < ·)
  rng : ∀ x ∈ l, 1 ≤ x ∧ x ≤ n
  pos : 0 ≤ n
theorem Ris.nil : Ris [] 0 := ⟨List.Pairwise.nil, by simp, Int.le_refl _⟩
theorem Ris.more {l : List Int} {n g : Int} (h : Ris l n) (_hg : 0 ≤ g) : Ris (l ++ [n + 1 + g % 4]) (n + 1 + g % 4) := by
  have h0 : 0 ≤ g % 4 := Int.emod_nonneg _ (by omega)
  have hp := h.pos
  refine ⟨List.pairwise_append.2 ⟨h.up, by simp, fun x hx y hy => ?_⟩, fun x hx => ?_, by omega⟩
  · rw [List.mem_singleton.1 hy]
    have := h.rng x hx
    omega
  · rcases List.mem_append.1 hx with hx | hx
    · have := h.rng x hx
      omega
    · rw [List.mem_singleton.1 hx]
      omega

/-- What the ranges say. -/
structure RowsOk (rows : List Rg) (last : Int) (l : List Int) : Prop where
  has : ∀ i, Has rows i ↔ i ∈ l
  rng : ∀ r ∈ rows, 1 ≤ r.1 ∧ r.1 ≤ r.2 ∧ r.2 ≤ last
  inv : ∀ s t, rows = s ++ [t] → t.2 = last
  len : rows.length ≤ l.length
theorem tStep_ok {rows : List Rg} {last x : Int} {l : List Int} (h : RowsOk rows last l) (hx : last < x) (h1 : 1 ≤ x) : ∃ rows', tStep (rows, last) x = (rows', x) ∧ RowsOk rows' x (l ++ [x]) := by
  rcases List.eq_nil_or_concat rows with rfl | ⟨s, t, rfl⟩
  · refine ⟨[(x, x)], tStep_none (by omega), ⟨fun i => ?_, ?_, ?_, ?_⟩⟩
    · have hi : ¬ i ∈ l := fun hm => has_nil i ((h.has i).2 hm)
      rw [has_one, List.mem_append, List.mem_singleton]
      constructor
      · intro hh
        right
        omega
      · rintro (hh | hh)
        · exact absurd hh hi
        · omega
    · intro r hr
      rw [List.mem_singleton.1 hr]
      simp
      omega
    · intro s t he
      have := List.append_inj_right' (s₁ := []) he rfl
      injection this with this
      rw [← this]
    · simp
  · rw [List.concat_eq_append] at h ⊢
    have ht := h.inv s t rfl
    have htr := h.rng t (by simp)
    by_cases hj : t.2 = x - 1
    · refine ⟨_, tStep_join (by omega) hj, ⟨fun i => ?_, ?_, ?_, ?_⟩⟩
      · rw [List.mem_append, List.mem_singleton, ← h.has i, has_append, has_append, has_one, has_one]
        constructor
        · rintro (hh | hh)
          · exact .inl (.inl hh)
          · by_cases he : i = x
            · exact .inr he
            · exact .inl (.inr (by simp only at hh; omega))
        · rintro ((hh | hh) | hh)
          · exact .inl hh
          · right
            simp only
            omega
          · right
            simp only
            omega
      · intro r hr
        rcases List.mem_append.1 hr with hr | hr
        · have := h.rng r (List.mem_append_left _ hr)
          omega
        · rw [List.mem_singleton.1 hr]
          simp only
          omega
      · intro s' t' he
        have := List.append_inj_right' he rfl
        injection this with this
        rw [← this]
      · have := h.len
        simp at this ⊢
        omega
    · refine ⟨_, tStep_push (by omega) hj, ⟨fun i => ?_, ?_, ?_, ?_⟩⟩
      · rw [List.mem_append, List.mem_singleton, ← h.has i, has_append, has_one]
        constructor
        · rintro (hh | hh)
          · exact .inl hh
          · right
            simp only at hh
            omega
        · rintro (hh | hh)
          · exact .inl hh
          · right
            simp only
            omega
      · intro r hr
        rcases List.mem_append.1 hr with hr | hr
        · have := h.rng r hr
          omega
        · rw [List.mem_singleton.1 hr]
          simp only
          omega
      · intro s' t' he
        have := List.append_inj_right' he rfl
        injection this with this
        rw [← this]
      · have := h.len
        simp at this ⊢
        omega
theorem tFold_ok : ∀ (l : List Int) (rows : List Rg) (last : Int) (m : List Int), RowsOk rows last m → 0 ≤ last → l.Pairwise (· < ·) → (∀ x ∈ l, last < x) → ∃ rows' last', l.foldl tStep (rows, last) = (rows', last') ∧ RowsOk rows' last' (m ++ l) ∧ (∀ n, last ≤ n → (∀ x ∈ l, x ≤ n) → last' ≤ n)
  | [], rows, last, m, h, _, _, _ => ⟨rows, last, rfl, by simpa using h, fun n hn _ => hn⟩
  | x :: l, rows, last, m, h, h0, hp, hx => by
    have hxl := hx x List.mem_cons_self
    obtain ⟨rows1, e1, h1⟩ := tStep_ok h hxl (by omega)
    have hp' := List.pairwise_cons.1 hp
    obtain ⟨rows2, last2, e2, h2, h3⟩ := tFold_ok l rows1 x (m ++ [x]) h1 (by omega) hp'.2 hp'.1
    refine ⟨rows2, last2, by rw [List.foldl_cons, e1, e2], by simpa using h2, fun n hn hm => ?_⟩
    exact h3 n (hm x List.mem_cons_self) fun y hy => hm y (List.mem_cons_of_mem _ hy)
theorem tRows_ok {l : List Int} {n : Int} (h : Ris l n) : ∃ last, RowsOk (tRows l) last l ∧ last ≤ n := by
  obtain ⟨rows, last, e, h1, h2⟩ := tFold_ok l [] 0 [] ⟨fun i => by simp [has_nil], by simp, by simp, by simp⟩ (Int.le_refl _) h.up (fun x hx => by have := h.rng x hx; omega)
  refine ⟨last, ?_, h2 n h.pos fun x hx => (h.rng x hx).2⟩
  unfold tRows
  rw [e]
  simpa using h1

theorem part_row (r : Rg) (star : Int) (h1 : 1 ≤ r.1) (h2 : r.1 ≤ r.2) (h3 : r.2 ≤ 4294967295) : partL (rowT r) star = (r, true) := by
  unfold rowT
  by_cases h : r.1 < r.2
  · rw [if_pos h, partL_two _ _ star r.1 r.2 (dig_no _ 58 (.inr (by decide))) (boundL_dig _ _ h1 (by omega)) (boundL_dig _ _ (by omega) h3)]
    unfold rng2
    rw [if_neg (by omega), if_pos h]
  · rw [if_neg h, List.append_nil, partL_one _ star r.1 (dig_no _ 58 (.inr (by decide))) (boundL_dig _ _ h1 (by omega))]
    have : r.2 = r.1 := by omega
    rw [show r = (r.1, r.2) from rfl, this]
theorem row_no44 (r : Rg) : ∀ b ∈ rowT r, b ≠ 44 := by
  unfold rowT
  intro b hb
  rcases List.mem_append.1 hb with hb | hb
  · exact dig_no _ 44 (.inl (by decide)) b hb
  · split at hb
    · rcases List.mem_cons.1 hb with rfl | hb
      · decide
      · exact dig_no _ 44 (.inl (by decide)) b hb
    · cases hb
theorem pieces_join : ∀ (l : List (List UInt8)), l ≠ [] → (∀ p ∈ l, ∀ b ∈ p, b ≠ 44) → piecesC 44 (join l [44]) = l
  | [], h, _ => absurd rfl h
  | [p], _, h => by rw [join_one, piecesC_end 44 p (h p List.mem_cons_self)]
  | p :: q :: l, _, h => by
    rw [join_two, List.singleton_append, piecesC_cut 44 p _ (h p List.mem_cons_self), pieces_join (q :: l) (by simp) fun x hx => h x (List.mem_cons_of_mem _ hx)]
theorem refGo_rows (star : Int) : ∀ (rows acc : List Rg), (∀ r ∈ rows, 1 ≤ r.1 ∧ r.1 ≤ r.2 ∧ r.2 ≤ 4294967295) → refGo star (rows.map rowT) acc = some (acc ++ rows)
  | [], acc, _ => by simp [refGo]
  | r :: rows, acc, h => by
    obtain ⟨h1, h2, h3⟩ := h r List.mem_cons_self
    rw [List.map_cons, refGo_cons _ _ _ _ _ (part_row r star h1 h2 h3), refGo_rows star rows _ fun x hx => h x (List.mem_cons_of_mem _ hx)]
    simp
theorem dec_len3 (k : Nat) (h : k < 1000) : (decDigits k).length ≤ 3 := by
  have : ∀ k, k < 1000 → (decDigits k).length ≤ 3 := by
    intro k hk
    rw [decDigits_length]
    by_cases h1 : k < 10
    · rw [nDigits_small h1]
      omega
    · unfold nDigits
      rw [dif_neg h1]
      by_cases h2 : k / 10 < 10
      · rw [nDigits_small h2]
        omega
      · unfold nDigits
        rw [dif_neg h2, nDigits_small (by omega)]
        omega
  exact this k h
theorem row_len (r : Rg) (h1 : r.1 < 1000) (h2 : r.2 < 1000) : (rowT r).length ≤ 7 := by
  have a : (digL r.1).length ≤ 3 := dec_len3 _ (by omega)
  have b : (digL r.2).length ≤ 3 := dec_len3 _ (by omega)
  unfold rowT
  rw [List.length_append]
  split
  · simp
    omega
  · simp
    omega
theorem join_len8 (l : List (List UInt8)) (h : ∀ x ∈ l, x.length ≤ 7) : (join l [44]).length ≤ 8 * l.length := by
  induction l with
  | nil => simp [join_nil]
  | cons a l ih =>
    have ha := h a List.mem_cons_self
    have ih := ih fun x hx => h x (List.mem_cons_of_mem _ hx)
    cases l with
    | nil =>
      rw [join_one]
      simp
      omega
    | cons b l =>
      rw [join_two]
      simp only [List.length_append, List.length_cons, List.length_nil] at ih ⊢
      omega

/-- The text of rising numbers, read, says just those. -/
theorem back_read {l : List Int} {n : Int} (h : Ris l n) (hl : l ≠ []) (hlen : l.length ≤ 60) (hn : n ≤ 240) : ∃ R : List Rg, refReadL (textL l) 0 = (R, 0) ∧ (textL l).length ≤ 1000 ∧ ∀ i, inL R i = decide (i ∈ l) := by
  obtain ⟨last, h1, h2⟩ := tRows_ok h
  have hne : tRows l ≠ [] := by
    intro e
    cases l with
    | nil => exact hl rfl
    | cons x l =>
      have := (h1.has x).2 List.mem_cons_self
      rw [e] at this
      exact has_nil x this
  have hlt : (textL l).length ≤ 1000 := by
    have := join_len8 ((tRows l).map rowT) (fun x hx => by
      obtain ⟨r, hr, rfl⟩ := List.mem_map.1 hx
      have := h1.rng r hr
      exact row_len r (by omega) (by omega))
    have h3 := h1.len
    rw [List.length_map] at this
    unfold textL
    omega
  refine ⟨rGo (tRows l), ?_, hlt, fun i => ?_⟩
  · unfold refReadL
    rw [if_neg (by omega)]
    unfold textL
    rw [pieces_join _ (by simpa using hne) (fun p hp => by
      obtain ⟨r, _, rfl⟩ := List.mem_map.1 hp
      exact row_no44 r), refGo_rows 0 (tRows l) [] fun r hr => by have := h1.rng r hr; omega]
    rfl
  · have h3 := (rGo_ok (tRows l)).2 i
    rw [h1.has i] at h3
    rw [Bool.eq_iff_iff, inL_has, h3, decide_eq_true_iff]
    exact ⟨fun hh => hh.2, fun hh => ⟨(h.rng i hh).1, hh⟩⟩

/-- The place of the first number that is not below i. -/
theorem ris_in {l : List Int} (hp : l.Pairwise (· < ·)) {i : Int} {k : Nat} (hlo : ∀ x ∈ l.take k, x < i) (hhi : ∀ x ∈ l.drop k, i ≤ x) : (i ∈ l ↔ ∃ h : k < l.length, l[k] = i) := by
  constructor
  · intro hm
    rw [← List.take_append_drop k l] at hm
    rcases List.mem_append.1 hm with hm | hm
    · exact absurd (hlo i hm) (by omega)
    · have hk : k < l.length := by
        rcases Nat.lt_or_ge k l.length with hk | hk
        · exact hk
        · rw [List.drop_of_length_le hk] at hm
          cases hm
      refine ⟨hk, ?_⟩
      rw [List.drop_eq_getElem_cons hk] at hm hhi
      rcases List.mem_cons.1 hm with h | h
      · exact h.symm
      · have h1 := hhi l[k] List.mem_cons_self
        have h2 : (l[k] :: l.drop (k + 1)).Pairwise (· < ·) := by
          rw [← List.drop_eq_getElem_cons hk]
          exact hp.sublist (List.drop_sublist _ _)
        have h3 := (List.pairwise_cons.1 h2).1 i h
        omega
  · rintro ⟨h, rfl⟩
    exact List.getElem_mem h

end Go.Proofs.YtogmdfjgedekgaaDoor
