/-
  pillarboxlaw15.awake and FlagBack, walked; and the plain law behind FlagBack: a keyword's flag has that keyword.
-/
import Derived.Test.YtkgpflobbmagaaaRight
import Derived.Test.YtkgpflobbmagaaaBytes
namespace Go.Proofs.Ytkgpflobbmagaaa
open Go.RowKit

set_option maxRecDepth 100000 in
set_option maxHeartbeats 400000 in
theorem awake15_any (w : World) : Calls Try.prog 14 #[] w fun e w' => e = .returned (.bool true) ∧ Below w.heap.size w w' := by
  have hk := fun W => key_any ⟨#[92, 83, 69, 69, 78]⟩ W (by decide)
  rw [show keyOf (lowL (⟨#[92, 83, 69, 69, 78]⟩ : ByteArray).data.toList) = ([36, 115, 101, 101, 110], true) from by decide +kernel] at hk
  have hf := fun W => flag_any ⟨#[36, 115, 101, 101, 110]⟩ W
  rw [show flagOf ⟨#[36, 115, 101, 101, 110]⟩ = ⟨#[92, 83, 101, 101, 110]⟩ from by decide +kernel] at hf
  have hb := Below.refl w.heap.size w
  go_enter Try.func14, Try.ntmps14
  go_wp2_with (first | (go_at_call 15; refine (hk _).mono ?_; rintro e w1 ⟨rfl, hx⟩; replace hb := bthen hb hx; clear hx) | (go_at_call 16; refine (hf _).mono ?_; rintro e w2 ⟨rfl, rfl⟩))
  go_ret
  exact ⟨rfl, hb⟩

theorem atomB_back : atomB 92 = false := by decide +kernel
theorem not_sys (l : List UInt8) (h : atomL l = true) : l ∉ sysKeys := by
  intro hm
  have hall : l.all atomB = true := by
    unfold atomL at h
    exact (Bool.and_eq_true_iff.1 h).1
  simp only [sysKeys, List.mem_cons, List.not_mem_nil, or_false] at hm
  rcases hm with rfl | rfl | rfl | rfl | rfl <;> simp [atomB_back] at hall

theorem right_parts {l : List UInt8} (h : rightL l = true) : atomL l = true ∧ l.length ≤ 64 ∧ lowL l = l := by
  unfold rightL at h
  simp only [Bool.and_eq_true, decide_eq_true_eq, beq_iff_eq] at h
  exact ⟨h.1.1, h.1.2, h.2⟩

/-- THE PLAIN LAW: a keyword's flag has that keyword. -/
theorem key_flag (s : ByteArray) (h : rightL s.data.toList = true) : keyOf (lowL (flagOf s).data.toList) = (s.data.toList, true) := by
  unfold flagOf
  by_cases c0 : s = ⟨#[36, 97, 110, 115, 119, 101, 114, 101, 100]⟩
  · subst c0; decide +kernel
  rw [if_neg c0]
  by_cases c1 : s = ⟨#[36, 102, 108, 97, 103, 103, 101, 100]⟩
  · subst c1; decide +kernel
  rw [if_neg c1]
  by_cases c2 : s = ⟨#[36, 100, 101, 108, 101, 116, 101, 100]⟩
  · subst c2; decide +kernel
  rw [if_neg c2]
  by_cases c3 : s = ⟨#[36, 115, 101, 101, 110]⟩
  · subst c3; decide +kernel
  rw [if_neg c3]
  by_cases c4 : s = ⟨#[36, 100, 114, 97, 102, 116]⟩
  · subst c4; decide +kernel
  rw [if_neg c4]
  obtain ⟨ha, _, hl⟩ := right_parts h
  rw [hl, keyOf, if_neg (not_sys _ ha), if_pos h]
theorem flag_inj (s t : ByteArray) (hs : rightL s.data.toList = true) (ht : rightL t.data.toList = true) : (flagOf s = flagOf t) ↔ s = t := by
  constructor
  · intro h
    have h1 := key_flag s hs
    rw [h, key_flag t ht] at h1
    have h2 : t.data.toList = s.data.toList := (Prod.mk.inj h1).1
    rw [of_dataL s _ h2.symm]
  · rintro rfl
    rfl
theorem flagOf_size (s : ByteArray) (h : s.size ≤ 300) : (flagOf s).size ≤ 300 := by
  unfold flagOf
  repeat' split
  all_goals first | decide | exact h

set_option maxRecDepth 100000 in
set_option maxHeartbeats 1000000 in
theorem flagBack_any (a b : ByteArray) (w : World) (hsa : a.size ≤ 140737488351232) (hsb : b.size ≤ 140737488351232) :
    Calls Try.prog 3 #[.string a, .string b] w fun e w' => e = .returned (.bool true) ∧ Below w.heap.size w w' := by
  have hRa := fun W => right_any a W hsa
  have hRb := fun W => right_any b W hsb
  generalize hra : rightL a.data.toList = ra at hRa
  generalize hrb : rightL b.data.toList = rb at hRb
  have HA := Lib.hid hra
  have HB := Lib.hid hrb
  clear hra hrb
  have hb := Below.refl w.heap.size w
  go_enter Try.func3, Try.ntmps3
  by_cases ha : 300 < (a.size : Int)
  · go_wp2_with (first | (go_at_call 14; refine (awake15_any _).mono ?_; rintro e w1 ⟨rfl, hx⟩; replace hb := bthen hb hx; clear hx))
    go_ret
    exact ⟨rfl, hb⟩
  by_cases hbz : 300 < (b.size : Int)
  · go_wp2_with (first | (go_at_call 14; refine (awake15_any _).mono ?_; rintro e w1 ⟨rfl, hx⟩; replace hb := bthen hb hx; clear hx))
    go_ret
    exact ⟨rfl, hb⟩
  cases ra
  · go_wp2_with (first | (go_at_call 13; (with_reducible refine (hRa _).mono ?_); rintro e w1 ⟨rfl, hx⟩; replace hb := bthen hb hx; clear hx) | (go_at_call 14; refine (awake15_any _).mono ?_; rintro e w1 ⟨rfl, hx⟩; replace hb := bthen hb hx; clear hx))
    go_ret
    exact ⟨rfl, hb⟩
  cases rb
  · go_wp2_with (first | (go_at_call 13; (with_reducible refine (hRa _).mono ?_); rintro e w1 ⟨rfl, hx⟩; replace hb := bthen hb hx; clear hx) | (go_at_call 13; (with_reducible refine (hRb _).mono ?_); rintro e w1 ⟨rfl, hx⟩; replace hb := bthen hb hx; clear hx) | (go_at_call 14; refine (awake15_any _).mono ?_; rintro e w1 ⟨rfl, hx⟩; replace hb := bthen hb hx; clear hx))
    go_ret
    exact ⟨rfl, hb⟩
  have hFa := fun W => flag_any a W
  have hFb := fun W => flag_any b W
  have hK := fun W => key_any (flagOf a) W (by have := flagOf_size a (by omega); omega)
  rw [key_flag a HA.out] at hK
  have hinj := flag_inj a b HA.out HB.out
  have hq : ((flagOf a).toList == (flagOf b).toList) = (a.toList == b.toList) := by
    rw [toList_beqB, toList_beqB, Bool.eq_iff_iff, beq_iff_eq, beq_iff_eq]
    constructor
    · intro h
      rw [hinj.1 (of_dataL (flagOf a) _ h)]
    · intro h
      rw [hinj.2 (of_dataL a _ h)]
  have HQ := Lib.hid hq
  clear hq hinj
  generalize flagOf a = fa at hFa hK HQ
  generalize flagOf b = fb at hFb HQ
  go_wp2_with (first | (go_at_call 13; (with_reducible refine (hRa _).mono ?_); rintro e w1 ⟨rfl, hx⟩; replace hb := bthen hb hx; clear hx) | (go_at_call 13; (with_reducible refine (hRb _).mono ?_); rintro e w1 ⟨rfl, hx⟩; replace hb := bthen hb hx; clear hx) | (go_at_call 14; refine (awake15_any _).mono ?_; rintro e w1 ⟨rfl, hx⟩; replace hb := bthen hb hx; clear hx) | (go_at_call 15; refine (hK _).mono ?_; rintro e w1 ⟨rfl, hx⟩; replace hb := bthen hb hx; clear hx) | (go_at_call 16; (with_reducible refine (hFa _).mono ?_); rintro e w2 ⟨rfl, rfl⟩) | (go_at_call 16; (with_reducible refine (hFb _).mono ?_); rintro e w2 ⟨rfl, rfl⟩))
  go_ret
  exact ⟨rfl, hb⟩

end Go.Proofs.Ytkgpflobbmagaaa
