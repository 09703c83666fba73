/-
  Plain laws of sets as texts: the program's reading and the reference's are one; the numbers of digits. No condition.
-/
import Derived.Test.YtogmdfjgedekgaaDoorSeqRefRead
import Derived.Test.YtogmdfjgedekgaaDoorTextPlain
namespace Go.Proofs.YtogmdfjgedekgaaDoor
open Go.Lib

/-- Ranges clipped, the empty ones left out. -/
def keepR (l : List Rg) : List Rg := (l.map clipR).filter fun r => decide (r.1 ≤ r.2)

theorem readGo_ref (star : Int) : ∀ (ps : List (List UInt8)) (acc : List Rg), readGo star ps (keepR acc) = (refGo star ps acc).map keepR
  | [], acc => rfl
  | p :: ps, acc => by
    unfold readGo refGo
    by_cases h : (partL p star).2
    · rw [if_pos h, if_pos h, ← readGo_ref star ps]
      congr 1
      unfold keepR
      rw [List.map_append, List.filter_append]
      by_cases h2 : (clipR (partL p star).1).1 ≤ (clipR (partL p star).1).2
      · simp [h2]
      · simp [h2]
    · rw [if_neg h, if_neg h]
      rfl

theorem has_keep (l : List Rg) (n : Int) : Has (keepR l) n ↔ 1 ≤ n ∧ Has l n := by
  unfold Has keepR
  constructor
  · rintro ⟨x, hx, h1, h2⟩
    obtain ⟨hm, _⟩ := List.mem_filter.1 hx
    obtain ⟨y, hy, rfl⟩ := List.mem_map.1 hm
    simp only [clipR] at h1 h2
    refine ⟨by split at h1 <;> omega, y, hy, by split at h1 <;> omega, h2⟩
  · rintro ⟨h0, y, hy, h1, h2⟩
    refine ⟨clipR y, List.mem_filter.2 ⟨List.mem_map_of_mem hy, ?_⟩, ?_, h2⟩
    · show decide ((clipR y).1 ≤ (clipR y).2) = true
      rw [decide_eq_true_eq]
      simp only [clipR]
      split <;> omega
    · simp only [clipR]
      split <;> omega
theorem has_perm {l m : List Rg} (h : l.Perm m) (n : Int) : Has l n ↔ Has m n := by
  unfold Has
  exact ⟨fun ⟨x, hx, hh⟩ => ⟨x, h.mem_iff.1 hx, hh⟩, fun ⟨x, hx, hh⟩ => ⟨x, h.mem_iff.2 hx, hh⟩⟩

theorem merge_keep (l : List Rg) : mergeR (keepR l) = rGo l := by
  refine merge_same l (sortedR (keepR l)) (fun x hx => ?_) (sortedR_low _) (fun n => ?_)
  · have h1 := (sortedR_perm (keepR l)).mem_iff.1 hx
    have h2 := (List.mem_filter.1 h1).2
    simpa using h2
  · rw [has_perm (sortedR_perm (keepR l)), has_keep]

/-- The program's reading is the reference's. -/
theorem readL_eq (l : List UInt8) (star : Int) : readL l star = refReadL l star := by
  unfold readL refReadL
  split
  · rfl
  · have h := readGo_ref star (piecesC 44 l) []
    have e : keepR [] = [] := rfl
    rw [e] at h
    rw [h]
    cases refGo star (piecesC 44 l) [] with
    | none => rfl
    | some a => simp [merge_keep]

/- the digits of a number are just that number -/
theorem dec_digit (d : Nat) (h : d < 10) : (UInt8.ofNat (48 + d)).toNat = 48 + d := by
  simp
  omega
theorem numGo_append (a b : List UInt8) (n : Int) : numGo (a ++ b) n = (numGo a n).bind (numGo b) := by
  induction a generalizing n with
  | nil => rfl
  | cons c a ih =>
    rw [List.cons_append]
    unfold numGo
    split
    · rfl
    · exact ih _
theorem numGo_one (d : Nat) (h : d < 10) (n : Int) : numGo [UInt8.ofNat (48 + d)] n = some (n * 10 + d) := by
  unfold numGo
  rw [dec_digit d h, if_neg (by omega)]
  unfold numGo
  congr 1
  omega
theorem numGo_dec (k : Nat) : numGo (decDigits k) 0 = some (k : Int) := by
  induction k using Nat.strongRecOn with
  | _ k ih =>
    by_cases h : k < 10
    · rw [decDigits_one h, numGo_one k h]
      simp
    · rw [decDigits_more k (by omega), numGo_append, ih (k / 10) (by omega)]
      simp only [Option.bind_some]
      rw [numGo_one (k % 10) (by omega)]
      congr 1
      omega
theorem dec_ne (k : Nat) : decDigits k ≠ [] := by
  by_cases h : k < 10
  · rw [decDigits_one h]
    simp
  · rw [decDigits_more k (by omega)]
    simp
theorem dec_head (k : Nat) (hk : 1 ≤ k) : (decDigits k).head? ≠ some 48 := by
  induction k using Nat.strongRecOn with
  | _ k ih =>
    by_cases h : k < 10
    · rw [decDigits_one h]
      intro e
      simp only [List.head?_cons, Option.some.injEq] at e
      have := congrArg UInt8.toNat e
      rw [dec_digit k h] at this
      have h48 : (48 : UInt8).toNat = 48 := rfl
      omega
    · rw [decDigits_more k (by omega), List.head?_append]
      have := ih (k / 10) (by omega) (by omega)
      cases hh : (decDigits (k / 10)).head? with
      | none => exact absurd (List.head?_eq_none_iff.1 hh) (dec_ne _)
      | some c =>
        rw [hh] at this
        simpa using this
theorem dec_rng (k : Nat) : ∀ c ∈ decDigits k, 48 ≤ c.toNat ∧ c.toNat ≤ 57 := by
  induction k using Nat.strongRecOn with
  | _ k ih =>
    intro c hc
    by_cases h : k < 10
    · rw [decDigits_one h] at hc
      rw [List.mem_singleton.1 hc, dec_digit k h]
      omega
    · rw [decDigits_more k (by omega)] at hc
      rcases List.mem_append.1 hc with hc | hc
      · exact ih (k / 10) (by omega) c hc
      · rw [List.mem_singleton.1 hc, dec_digit (k % 10) (by omega)]
        omega
theorem dec_len10 (k : Nat) (h : k < 10000000000) : (decDigits k).length ≤ 10 := by
  rw [decDigits_length]
  have hn : ∀ (j m : Nat), m < 10 ^ (j + 1) → nDigits m ≤ j + 1 := by
    intro j
    induction j with
    | zero =>
      intro m hm
      rw [nDigits_small (by omega)]
      omega
    | succ j ih =>
      intro m hm
      by_cases hs : m < 10
      · rw [nDigits_small hs]
        omega
      · have := ih (m / 10) (by rw [Nat.pow_succ] at hm; omega)
        unfold nDigits
        rw [dif_neg hs]
        omega
  exact hn 9 k (by omega)

theorem numberL_dig (n : Int) (h1 : 1 ≤ n) (h2 : n ≤ 4294967295) : numberL (digL n) = (n, true) := by
  obtain ⟨k, rfl⟩ : ∃ k : Nat, n = k := ⟨n.toNat, by omega⟩
  have hd : digL (k : Int) = decDigits k := by unfold digL; simp
  rw [hd]
  unfold numberL
  have hl := dec_len10 k (by omega)
  rw [if_neg, numGo_dec]
  · simp only
    rw [if_neg (by omega)]
  · rintro (h | h | ⟨h, _⟩)
    · exact dec_ne _ h
    · omega
    · exact dec_head k (by omega) h
theorem dig_no (n : Int) (c : UInt8) (h : c.toNat < 48 ∨ 57 < c.toNat) : ∀ b ∈ digL n, b ≠ c := by
  intro b hb e
  have := dec_rng _ b hb
  rw [e] at this
  omega
theorem dig_star (n : Int) : digL n ≠ [42] := fun h => dig_no n 42 (.inl (by decide)) 42 (by rw [h]; simp) rfl
theorem boundL_dig (n star : Int) (h1 : 1 ≤ n) (h2 : n ≤ 4294967295) : boundL (digL n) star = (n, true) := by
  unfold boundL
  rw [if_neg (dig_star n), numberL_dig n h1 h2]
  simp
  omega

theorem index_no (l : List UInt8) (c : UInt8) (h : ∀ b ∈ l, b ≠ c) : index l [c] = -1 := by
  induction l with
  | nil => rfl
  | cons b l ih =>
    rw [index_one_cons, if_neg (h b List.mem_cons_self), ih fun x hx => h x (List.mem_cons_of_mem _ hx), if_pos rfl]
theorem index_mid (a b : List UInt8) (c : UInt8) (h : ∀ x ∈ a, x ≠ c) : index (a ++ c :: b) [c] = (a.length : Int) := by
  induction a with
  | nil => rw [List.nil_append, index_one_cons, if_pos rfl]; rfl
  | cons x a ih =>
    rw [List.cons_append, index_one_cons, if_neg (h x List.mem_cons_self), ih fun y hy => h y (List.mem_cons_of_mem _ hy), if_neg (by omega)]
    simp
theorem cutL_no (l : List UInt8) (h : ∀ b ∈ l, b ≠ 58) : cutL l = (l, l) := cut_miss l (index_no l 58 h)
theorem cutL_mid (a b : List UInt8) (h : ∀ x ∈ a, x ≠ 58) : cutL (a ++ 58 :: b) = (a, b) := by
  rw [cut_hit _ a.length (index_mid a b 58 h)]
  simp

/-- The range of two numbers. -/
def rng2 (a b : Int) : Rg := (if b < a then b else a, if a < b then b else a)
theorem partL_two (a b : List UInt8) (star x y : Int) (h : ∀ c ∈ a, c ≠ 58) (ha : boundL a star = (x, true)) (hb : boundL b star = (y, true)) : partL (a ++ 58 :: b) star = (rng2 x y, true) := by
  unfold partL
  rw [cutL_mid a b h, ha, hb]
  rfl
theorem partL_one (a : List UInt8) (star x : Int) (h : ∀ c ∈ a, c ≠ 58) (ha : boundL a star = (x, true)) : partL a star = ((x, x), true) := by
  unfold partL
  rw [cutL_no a h, ha]
  simp
theorem has_rng2 (a b n : Int) (l : List Rg) : Has (rng2 a b :: l) n ↔ ((a ≤ n ∧ n ≤ b) ∨ (b ≤ n ∧ n ≤ a)) ∨ Has l n := by
  rw [has_cons]
  unfold rng2
  simp only
  constructor
  · rintro (h | h)
    · left
      split at h <;> split at h <;> omega
    · exact .inr h
  · rintro (h | h)
    · left
      split <;> split <;> omega
    · exact .inr h

end Go.Proofs.YtogmdfjgedekgaaDoor
