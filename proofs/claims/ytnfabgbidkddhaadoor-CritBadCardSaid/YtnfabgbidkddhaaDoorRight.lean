/-
  The walks of flag.Right, flag.Key, flag.Flag.
-/
import Derived.Test.YtnfabgbidkddhaaDoorAtom
import Derived.Test.YtnfabgbidkddhaaDoorFold
namespace Go.Proofs.YtnfabgbidkddhaaDoor
open Go.RowKit

def rightL (l : List UInt8) : Bool := atomL l && decide (l.length ≤ 64) && (lowL l == l)

set_option maxRecDepth 100000 in
set_option maxHeartbeats 400000 in
theorem right_any (s : ByteArray) (w : World) (hs : s.size ≤ 140737488351232) :
    Calls Tryd.prog 59 #[.string s] w fun e w' => e = .returned (.bool (rightL s.data.toList)) ∧ Below w.heap.size w w' := by
  obtain ⟨b, hb⟩ : ∃ b, rightL s.data.toList = b := ⟨_, rfl⟩
  rw [hb]
  have HB0 := Lib.hid hb
  clear hb
  obtain ⟨a, ha⟩ : ∃ a, atomL s.data.toList = a := ⟨_, rfl⟩
  have hat := atom_any s
  rw [ha] at hat
  have HA := Lib.hid ha
  clear ha
  go_enter Tryd.func59, Tryd.ntmps59
  cases a
  · go_wp2_with (first | (go_at_call 76; refine (hat _ hs).mono ?_; rintro e w' ⟨rfl, rfl⟩) | (go_at_call 14; refine (fold_any _ _ hs).mono ?_; rintro e w' ⟨rfl, hb⟩))
    go_ret
    exact ⟨ret_bool (by rw [← HB0.out, rightL, HA.out]; rfl), Below.refl _ _⟩
  · go_wp2_with (first | (go_at_call 76; refine (hat _ hs).mono ?_; rintro e w' ⟨rfl, rfl⟩) | (go_at_call 14; refine (fold_any _ _ hs).mono ?_; rintro e w' ⟨rfl, hb⟩))
    · go_ret
      refine ⟨ret_bool ?_, hb⟩
      rw [← HB0.out, rightL, HA.out, toList_beqB, decide_eq_true (by rw [lenB]; omega)]
      rfl
    · go_ret
      refine ⟨ret_bool ?_, Below.refl _ _⟩
      rw [← HB0.out, rightL, decide_eq_false (by rw [lenB]; omega)]
      simp

/-- The five of the system, as they read when made small. -/
def sysKeys : List (List UInt8) := [[92, 97, 110, 115, 119, 101, 114, 101, 100], [92, 102, 108, 97, 103, 103, 101, 100], [92, 100, 101, 108, 101, 116, 101, 100], [92, 115, 101, 101, 110], [92, 100, 114, 97, 102, 116]]
/-- The keyword of a text that has been made small; none: false. -/
def keyOf (l : List UInt8) : List UInt8 × Bool := if l ∈ sysKeys then (36 :: l.tail, true) else if rightL l then (l, true) else ([], false)

set_option maxRecDepth 100000 in
set_option maxHeartbeats 1000000 in
theorem key_any (s : ByteArray) (w : World) (hs : s.size ≤ 140737488351232) :
    Calls Tryd.prog 43 #[.string s] w fun e w' => e = .returned (.tuple #[.string ⟨(keyOf (lowL s.data.toList)).1.toArray⟩, .bool (keyOf (lowL s.data.toList)).2]) ∧ Below w.heap.size w w' := by
  obtain ⟨t, ht⟩ : ∃ t, lowS s = t := ⟨_, rfl⟩
  have hl : lowL s.data.toList = t.data.toList := by rw [← ht]; rfl
  have htz : t.size ≤ 140737488351232 := by rw [← ht, lowS_size]; exact hs
  have hf := fun W => fold_any s W hs
  rw [hl]
  rw [ht] at hf
  clear hl ht
  go_enter Tryd.func43, Tryd.ntmps43
  by_cases c0 : t = ⟨#[92, 97, 110, 115, 119, 101, 114, 101, 100]⟩
  · subst c0
    go_wp2_with (first | (go_at_call 14; refine (hf _).mono ?_; rintro e w1 ⟨rfl, hb1⟩) | (go_at_call 59; refine (right_any _ _ htz).mono ?_; rintro e w2 ⟨rfl, hb2⟩))
    go_ret2
    exact ⟨rfl, hb1⟩
  have n0 := ne_toListB t [92, 97, 110, 115, 119, 101, 114, 101, 100] c0
  by_cases c1 : t = ⟨#[92, 102, 108, 97, 103, 103, 101, 100]⟩
  · subst c1
    go_wp2_with (first | (go_at_call 14; refine (hf _).mono ?_; rintro e w1 ⟨rfl, hb1⟩) | (go_at_call 59; refine (right_any _ _ htz).mono ?_; rintro e w2 ⟨rfl, hb2⟩))
    go_ret2
    exact ⟨rfl, hb1⟩
  have n1 := ne_toListB t [92, 102, 108, 97, 103, 103, 101, 100] c1
  by_cases c2 : t = ⟨#[92, 100, 101, 108, 101, 116, 101, 100]⟩
  · subst c2
    go_wp2_with (first | (go_at_call 14; refine (hf _).mono ?_; rintro e w1 ⟨rfl, hb1⟩) | (go_at_call 59; refine (right_any _ _ htz).mono ?_; rintro e w2 ⟨rfl, hb2⟩))
    go_ret2
    exact ⟨rfl, hb1⟩
  have n2 := ne_toListB t [92, 100, 101, 108, 101, 116, 101, 100] c2
  by_cases c3 : t = ⟨#[92, 115, 101, 101, 110]⟩
  · subst c3
    go_wp2_with (first | (go_at_call 14; refine (hf _).mono ?_; rintro e w1 ⟨rfl, hb1⟩) | (go_at_call 59; refine (right_any _ _ htz).mono ?_; rintro e w2 ⟨rfl, hb2⟩))
    go_ret2
    exact ⟨rfl, hb1⟩
  have n3 := ne_toListB t [92, 115, 101, 101, 110] c3
  by_cases c4 : t = ⟨#[92, 100, 114, 97, 102, 116]⟩
  · subst c4
    go_wp2_with (first | (go_at_call 14; refine (hf _).mono ?_; rintro e w1 ⟨rfl, hb1⟩) | (go_at_call 59; refine (right_any _ _ htz).mono ?_; rintro e w2 ⟨rfl, hb2⟩))
    go_ret2
    exact ⟨rfl, hb1⟩
  have n4 := ne_toListB t [92, 100, 114, 97, 102, 116] c4
  have hns : t.data.toList ∉ sysKeys := by
    intro h
    simp only [sysKeys, List.mem_cons, List.not_mem_nil, or_false] at h
    rcases h with h | h | h | h | h
    · exact c0 (of_dataL t _ h)
    · exact c1 (of_dataL t _ h)
    · exact c2 (of_dataL t _ h)
    · exact c3 (of_dataL t _ h)
    · exact c4 (of_dataL t _ h)
  clear c0 c1 c2 c3 c4
  obtain ⟨q, hq⟩ : ∃ q, keyOf t.data.toList = q := ⟨_, rfl⟩
  rw [hq]
  rw [keyOf, if_neg hns] at hq
  have HQ := Lib.hid hq
  clear hq hns
  cases hr : rightL t.data.toList
  · rw [hr] at HQ
    have hR := fun W => right_any t W htz
    rw [hr] at hR
    clear hr
    go_wp2_with (first | (go_at_call 14; refine (hf _).mono ?_; rintro e w1 ⟨rfl, hb1⟩) | (go_at_call 59; refine (hR _).mono ?_; rintro e w2 ⟨rfl, hb2⟩))
    go_ret2
    refine ⟨?_, hb1.trans (hb2.mono hb1.size)⟩
    rw [← HQ.out]
    rfl
  · rw [hr] at HQ
    have hR := fun W => right_any t W htz
    rw [hr] at hR
    clear hr
    go_wp2_with (first | (go_at_call 14; refine (hf _).mono ?_; rintro e w1 ⟨rfl, hb1⟩) | (go_at_call 59; refine (hR _).mono ?_; rintro e w2 ⟨rfl, hb2⟩))
    go_ret2
    refine ⟨?_, hb1.trans (hb2.mono hb1.size)⟩
    rw [← HQ.out]
    rfl

/-- A keyword's flag. -/
def flagOf (s : ByteArray) : ByteArray :=
  if s = ⟨#[36, 97, 110, 115, 119, 101, 114, 101, 100]⟩ then ⟨#[92, 65, 110, 115, 119, 101, 114, 101, 100]⟩
  else if s = ⟨#[36, 102, 108, 97, 103, 103, 101, 100]⟩ then ⟨#[92, 70, 108, 97, 103, 103, 101, 100]⟩
  else if s = ⟨#[36, 100, 101, 108, 101, 116, 101, 100]⟩ then ⟨#[92, 68, 101, 108, 101, 116, 101, 100]⟩
  else if s = ⟨#[36, 115, 101, 101, 110]⟩ then ⟨#[92, 83, 101, 101, 110]⟩
  else if s = ⟨#[36, 100, 114, 97, 102, 116]⟩ then ⟨#[92, 68, 114, 97, 102, 116]⟩
  else s

end Go.Proofs.YtnfabgbidkddhaaDoor
