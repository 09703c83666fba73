/-
  The walk of pillarboxlaw21.SeqBad.
-/
import Derived.Test.YtogmdfjgedekgaaDoorSeqTurns
namespace Go.Proofs.YtogmdfjgedekgaaDoor
open Go.RowKit Go.Lib
attribute [local go_sem ↓] Go.wp_at_zero Go.wp_at_succ

theorem numGo_nodig : ∀ (l : List UInt8) (n : Int), (∃ c ∈ l, c.toNat < 48 ∨ 57 < c.toNat) → numGo l n = none
  | [], _, h => by simp at h
  | b :: r, n, ⟨c, hc, h⟩ => by
    unfold numGo
    split
    · rfl
    · rename_i hb
      rcases List.mem_cons.1 hc with rfl | hc
      · omega
      · exact numGo_nodig r _ ⟨c, hc, h⟩
theorem num_nodig (l : List UInt8) (h : ∃ c ∈ l, c.toNat < 48 ∨ 57 < c.toNat) : (numberL l).2 = false := by
  unfold numberL
  split
  · rfl
  · rw [numGo_nodig l 0 h]
theorem bound_nodig (l : List UInt8) (star : Int) (hs : l ≠ [42]) (h : ∃ c ∈ l, c.toNat < 48 ∨ 57 < c.toNat) : (boundL l star).2 = false := by
  unfold boundL
  rw [if_neg hs]
  show ((numberL l).2 && _) = false
  rw [num_nodig l h]
  rfl
theorem part_bad_first (l a b : List UInt8) (star : Int) (hc : cutL l = (a, b)) (h : (boundL a star).2 = false) : (partL l star).2 = false := by
  unfold partL
  rw [hc]
  show ((boundL a star).2 && _) = false
  rw [h]
  rfl
theorem part_bad_second (l a b : List UInt8) (star : Int) (hc : cutL l = (a, b)) (h : (boundL b star).2 = false) : (partL l star).2 = false := by
  unfold partL
  rw [hc]
  show (_ && (boundL b star).2) = false
  rw [h, Bool.and_false]

def BadP (l : List UInt8) : Prop := ∃ p ∈ piecesC 44 l, (partL p 5).2 = false
theorem refGo_bad (star : Int) : ∀ (ps : List (List UInt8)) (acc : List Rg), (∃ p ∈ ps, (partL p star).2 = false) → refGo star ps acc = none
  | [], _, h => by simp at h
  | q :: ps, acc, ⟨p, hp, h⟩ => by
    unfold refGo
    split
    · rename_i hq
      rcases List.mem_cons.1 hp with rfl | hp
      · rw [h] at hq
        cases hq
      · exact refGo_bad star ps _ ⟨p, hp, h⟩
    · rfl
theorem read_bad (l : List UInt8) (hn : l.length ≤ 1000) (h : BadP l) : refReadL l 5 = ([], 3) := by
  unfold refReadL
  rw [if_neg (by omega), refGo_bad 5 _ [] h]
theorem bad_more (d l : List UInt8) (hd : ∀ b ∈ d, b ≠ 44) (h : BadP l) : BadP (d ++ 44 :: l) := by
  obtain ⟨p, hp, h⟩ := h
  refine ⟨p, ?_, h⟩
  rw [piecesC_cut 44 d l hd]
  exact List.mem_cons_of_mem _ hp
theorem bad_alone (l : List UInt8) (hl : ∀ b ∈ l, b ≠ 44) (h : (partL l 5).2 = false) : BadP l := ⟨l, by rw [piecesC_end 44 l hl]; exact List.mem_singleton_self _, h⟩

def badL (D : List UInt8) : List (List UInt8) :=
  [[], D ++ [44], 44 :: D, [48], D ++ [58, 48], 48 :: 58 :: D, [58], D ++ [58], 58 :: D, D ++ 58 :: (D ++ 58 :: D), [52, 50, 57, 52, 57, 54, 55, 50, 57, 54], [120], D ++ [32], 48 :: D, 45 :: D, [42, 42], D ++ [42]]

structure Dig (D : List UInt8) : Prop where
  rng : ∀ c ∈ D, 48 ≤ c.toNat ∧ c.toNat ≤ 57
  ne : D ≠ []
  len : D.length ≤ 21
theorem Dig.no {D : List UInt8} (h : Dig D) (c : UInt8) (hc : c.toNat < 48 ∨ 57 < c.toNat) : ∀ b ∈ D, b ≠ c := by
  intro b hb e
  have := h.rng b hb
  rw [e] at this
  omega
theorem dig_of (n : Nat) (h : n ≤ 65535) : Dig (digL (1 + (n : Int))) := ⟨fun c hc => dec_rng _ c hc, dec_ne _, dig_len n h⟩

theorem bad_all {D : List UInt8} (h : Dig D) : ∀ l ∈ badL D, BadP l := by
  have n44 := h.no 44 (.inl (by decide))
  have n58 := h.no 58 (.inr (by decide))
  have hsnoc : ∀ c : UInt8, c ≠ 44 → ∀ b ∈ D ++ [c], b ≠ 44 := by
    intro c hc b hb
    rcases List.mem_append.1 hb with hb | hb
    · exact n44 b hb
    · rw [List.mem_singleton.1 hb]
      exact hc
  have hsnoc58 : ∀ c : UInt8, c ≠ 58 → ∀ b ∈ D ++ [c], b ≠ 58 := by
    intro c hc b hb
    rcases List.mem_append.1 hb with hb | hb
    · exact n58 b hb
    · rw [List.mem_singleton.1 hb]
      exact hc
  have hcons : ∀ c : UInt8, c ≠ 44 → ∀ b ∈ c :: D, b ≠ 44 := by
    intro c hc b hb
    rcases List.mem_cons.1 hb with rfl | hb
    · exact hc
    · exact n44 b hb
  have hcons58 : ∀ c : UInt8, c ≠ 58 → ∀ b ∈ c :: D, b ≠ 58 := by
    intro c hc b hb
    rcases List.mem_cons.1 hb with rfl | hb
    · exact hc
    · exact n58 b hb
  have hz : (boundL [] 5).2 = false := by decide +kernel
  have hz0 : (boundL [48] 5).2 = false := by decide +kernel
  intro l hl
  simp only [badL, List.mem_cons, List.mem_nil_iff, or_false] at hl
  rcases hl with rfl | rfl | rfl | rfl | rfl | rfl | rfl | rfl | rfl | rfl | rfl | rfl | rfl | rfl | rfl | rfl | rfl
  · exact bad_alone _ (by simp) (by decide +kernel)
  · exact ⟨[], by rw [piecesC_cut 44 D [] n44]; simp [piecesC], by decide +kernel⟩
  · exact ⟨[], by rw [show (44 :: D) = [] ++ 44 :: D from rfl, piecesC_cut 44 [] D (by simp)]; simp, by decide +kernel⟩
  · exact bad_alone _ (by decide) (by decide +kernel)
  · exact bad_alone _ (fun b hb => by
      rcases List.mem_append.1 hb with hb | hb
      · exact n44 b hb
      · simp at hb
        rcases hb with rfl | rfl <;> decide) (part_bad_second _ D [48] 5 (cutL_mid D [48] n58) hz0)
  · exact bad_alone _ (fun b hb => by
      rcases List.mem_cons.1 hb with rfl | hb
      · decide
      · exact hcons 58 (by decide) b hb) (part_bad_first _ [48] D 5 (cutL_mid [48] D (by decide)) hz0)
  · exact bad_alone _ (by decide) (by decide +kernel)
  · exact bad_alone _ (hsnoc 58 (by decide)) (part_bad_second _ D [] 5 (cutL_mid D [] n58) hz)
  · exact bad_alone _ (hcons 58 (by decide)) (part_bad_first _ [] D 5 (cutL_mid [] D (by simp)) hz)
  · refine bad_alone _ (fun b hb => ?_) (part_bad_second _ D (D ++ 58 :: D) 5 (cutL_mid D _ n58) (bound_nodig _ 5 (fun e => ?_) ⟨58, by simp, .inr (by decide)⟩))
    · rcases List.mem_append.1 hb with hb | hb
      · exact n44 b hb
      · rcases List.mem_cons.1 hb with rfl | hb
        · decide
        · rcases List.mem_append.1 hb with hb | hb
          · exact n44 b hb
          · exact hcons 58 (by decide) b hb
    · have := congrArg List.length e
      have h1 : D.length ≠ 0 := fun h0 => h.ne (List.eq_nil_of_length_eq_zero h0)
      simp at this
      omega
  · exact bad_alone _ (by decide) (by decide +kernel)
  · exact bad_alone _ (by decide) (by decide +kernel)
  · exact bad_alone _ (hsnoc 32 (by decide)) (part_bad_first _ _ _ 5 (cutL_no _ (hsnoc58 32 (by decide))) (bound_nodig _ 5 (fun e => by
      have := List.append_inj_right' (s₂ := []) e rfl
      injection this with this
      exact absurd this (by decide)) ⟨32, by simp, .inl (by decide)⟩))
  · refine bad_alone _ (hcons 48 (by decide)) (part_bad_first _ _ _ 5 (cutL_no _ (hcons58 48 (by decide))) ?_)
    unfold boundL
    rw [if_neg (fun e => by injection e with e; exact absurd e (by decide))]
    have h0 : numberL (48 :: D) = (0, false) := by
      unfold numberL
      rw [if_pos]
      refine .inr (.inr ⟨rfl, ?_⟩)
      have h1 : D.length ≠ 0 := fun h0 => h.ne (List.eq_nil_of_length_eq_zero h0)
      simp
      omega
    rw [h0]
    rfl
  · exact bad_alone _ (hcons 45 (by decide)) (part_bad_first _ _ _ 5 (cutL_no _ (hcons58 45 (by decide))) (bound_nodig _ 5 (fun e => by injection e with e; exact absurd e (by decide)) ⟨45, by simp, .inl (by decide)⟩))
  · exact bad_alone _ (by decide) (by decide +kernel)
  · exact bad_alone _ (hsnoc 42 (by decide)) (part_bad_first _ _ _ 5 (cutL_no _ (hsnoc58 42 (by decide))) (bound_nodig _ 5 (fun e => by
      have := congrArg List.length e
      have h1 : D.length ≠ 0 := fun h0 => h.ne (List.eq_nil_of_length_eq_zero h0)
      rw [List.length_append] at this
      simp only [List.length_singleton] at this
      omega) ⟨42, by simp, .inl (by decide)⟩))
theorem bad_len {D : List UInt8} (h : Dig D) : ∀ l ∈ badL D, l.length ≤ 100 := by
  have := h.len
  intro l hl
  simp only [badL, List.mem_cons, List.mem_nil_iff, or_false] at hl
  rcases hl with rfl | rfl | rfl | rfl | rfl | rfl | rfl | rfl | rfl | rfl | rfl | rfl | rfl | rfl | rfl | rfl | rfl <;> simp <;> omega

/-- The cells of the seventeen texts. -/
def badV (D : List UInt8) : Array Value := #[.string ⟨#[]⟩, .string ⟨(D ++ [44]).toArray⟩, .string ⟨(44 :: D).toArray⟩, .string ⟨#[48]⟩, .string ⟨(D ++ [58, 48]).toArray⟩, .string ⟨(48 :: 58 :: D).toArray⟩, .string ⟨#[58]⟩, .string ⟨(D ++ [58]).toArray⟩, .string ⟨(58 :: D).toArray⟩,
  .string ⟨(D ++ 58 :: (D ++ 58 :: D)).toArray⟩, .string ⟨#[52, 50, 57, 52, 57, 54, 55, 50, 57, 54]⟩, .string ⟨#[120]⟩, .string ⟨(D ++ [32]).toArray⟩, .string ⟨(48 :: D).toArray⟩, .string ⟨(45 :: D).toArray⟩, .string ⟨#[42, 42]⟩, .string ⟨(D ++ [42]).toArray⟩]
theorem badV_at (D : List UInt8) (k : Nat) (hk : k < (badL D).length) : (badV D)[k]? = some (.string ⟨((badL D)[k]).toArray⟩) := by
  have h17 : k < 17 := hk
  match k, h17 with
  | 0, _ => rfl
  | 1, _ => rfl
  | 2, _ => rfl
  | 3, _ => rfl
  | 4, _ => rfl
  | 5, _ => rfl
  | 6, _ => rfl
  | 7, _ => rfl
  | 8, _ => rfl
  | 9, _ => rfl
  | 10, _ => rfl
  | 11, _ => rfl
  | 12, _ => rfl
  | 13, _ => rfl
  | 14, _ => rfl
  | 15, _ => rfl
  | 16, _ => rfl
  | n + 17, h => omega

set_option maxRecDepth 100000 in
set_option maxHeartbeats 8000000 in
theorem seqBad_any (n b : Nat) (h : n ≤ 65535) (hb : b ≤ 255) (w : World) (hm : Mx w) :
    Calls Tryd.prog 4 #[.int .u16 n, .int .u8 b] w fun e w' => e = .returned (.bool true) ∧ Below w.heap.size w w' := by
  have hd := digitsL_any n h w
  have hD := dig_of n h
  generalize digL (1 + (n : Int)) = D at hd hD
  have hdl := hD.len
  obtain ⟨k, hk⟩ : ∃ k : Nat, (b : Int) % 17 = k := ⟨b % 17, by omega⟩
  have hk17 : k < (badL D).length := by show k < 17; omega
  obtain ⟨S, hS⟩ : ∃ S, (badL D)[k] = S := ⟨_, rfl⟩
  have hSm : S ∈ badL D := by rw [← hS]; exact List.getElem_mem hk17
  have hsl := bad_len hD S hSm
  have hbad := bad_all hD S hSm
  have e1 := read_bad S (by omega) hbad
  have e2 := read_bad (D ++ 44 :: S) (by simp; omega) (bad_more D S (hD.no 44 (.inl (by decide))) hbad)
  have hcell := badV_at D k hk17
  rw [hS] at hcell
  have HC := Lib.hid (fun W => show (World.alloc W (.cells (badV D) 9)).cell? ⟨W.heap.size, k, none⟩ = some (.string ⟨S.toArray⟩) from (World.cell?_alloc_at _ _ _ _ rfl).trans hcell)
  have hk0 : (0 : Int) ≤ (k : Int) := by omega
  have hk1 : (k : Int) < 17 := by omega
  have r1 := fun W (hW : Mx W) => readV_any S 5 [] 3 W (by omega) (by decide) hW e1
  have r2 := fun W (hW : Mx W) => readV_any (D ++ 44 :: S) 5 [] 3 W (by simp; omega) (by decide) hW e2
  clear e1 e2 hbad hSm hS hk17 hcell
  unfold badV at HC
  have hb0 : (0 : Int) ≤ (b : Int) := by omega
  have hb255 : (b : Int) ≤ 255 := by omega
  have hNu := fun W => numS_any W 3
  have HAW := Lib.hid (fun W (hW : Mx W) => awakeS_any W hW)
  have hap : ∀ a b : List UInt8, ByteArray.mk a.toArray ++ ByteArray.mk b.toArray = ByteArray.mk (a ++ b).toArray := fun a b => ByteArray.mk_append_mk a b
  have HM := Lib.hid hm
  clear hm hD
  go_enter Tryd.func4, Tryd.ntmps4
  go_wp2_with (first
    | (go_at_call 9; refine hd.mono ?_; rintro e w1 ⟨rfl, hb⟩; have HB1 := Lib.hid hb; have hc := HC.out w1; clear hb hd HC)
    | (go_at_call 10; (with_reducible refine (r1 _ ((HM.out.below HB1.out).below ((Below.refl _ _).alloc (Nat.le_refl _) _))).mono ?_); rintro e w2 ⟨v2, h2, rfl, hs, hb⟩; have HB2 := Lib.hid (((HB1.out.alloc HB1.out.size _)).trans (hb.mono (Nat.le_trans HB1.out.size (by simp)))); simp only [List.length_nil] at hs; obtain ⟨A2, cap2, rfl, _, _⟩ := hs.form; clear hb hs r1)
    | (go_at_call 10; (with_reducible refine (r2 _ (HM.out.below HB2.out)).mono ?_); rintro e w3 ⟨v3, h3, rfl, _, hb⟩; have HB3 := Lib.hid (HB2.out.trans (hb.mono HB2.out.size)); clear hb r2)
    | (go_at_call 11; refine (hNu _).mono ?_; rintro e wn ⟨rfl, rfl⟩)
    | (go_at_call 13; refine (HAW.out _ (HM.out.below HB3.out)).mono ?_; rintro e w12 ⟨rfl, hb⟩; have HB12 := Lib.hid (HB3.out.trans (hb.mono HB3.out.size)); clear hb)
    | fail)
  go_ret
  exact ⟨rfl, HB12.out⟩

end Go.Proofs.YtogmdfjgedekgaaDoor
