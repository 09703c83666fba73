/-
  The walks of the reference's Key and Flag.
-/
import Derived.Test.YtkgpflobbmagaaaRefFlag
namespace Go.Proofs.Ytkgpflobbmagaaa
open Go.RowKit Go.Sort
attribute [local go_sem ↓] Go.wp_at_zero Go.wp_at_succ

theorem keyOf_sys (k : Nat) (hk : k < 5) : keyOf (sysL k) = (sysK k, true) := by
  unfold keyOf
  rw [if_pos (sys_mem k hk)]
  rfl

set_option maxRecDepth 100000 in
set_option maxHeartbeats 2000000 in
theorem refKey_any (s : ByteArray) (w : World) (hs : s.size ≤ 140737488351232) :
    Calls Try.prog 36 #[.string s] w fun e w' => e = .returned (.tuple #[.string ⟨(keyOf (lowL s.data.toList)).1.toArray⟩, .bool (keyOf (lowL s.data.toList)).2]) ∧ Below w.heap.size w w' := by
  have hf := fun W => fold1_any s W hs
  have hls : lowS s = ⟨(lowL s.data.toList).toArray⟩ := rfl
  have hlz : (lowL s.data.toList).length ≤ 140737488351232 := by simpa [lowL] using hs
  rw [hls] at hf
  generalize lowL s.data.toList = t at hf hlz
  have HZ := Lib.hid hlz
  obtain ⟨kt, kb, hq⟩ : ∃ kt kb, keyOf t = (kt, kb) := ⟨_, _, rfl⟩
  rw [hq]
  have HQ := Lib.hid hq
  clear hls hlz hq
  go_enter Try.func36, Try.ntmps36
  go_wp2
  go_loopw [4] (fun i wr => ∃ k : Nat, k ≤ 5 ∧ i = .int .i64 k ∧ Hid (∀ j, j < k → t ≠ sysL j) ∧ Hid (Below w.heap.size w wr)) (fun i _ => 5 - (intOf i).toNat)
  case atStart => exact ⟨0, by omega, rfl, Lib.hid (fun j hj => by omega), Lib.hid (Below.refl _ _)⟩
  case round =>
    obtain ⟨k, hk, rfl, HU, HB⟩ := hrel
    by_cases hlt : k < 5
    · have hsy := system_any k hlt wr
      obtain ⟨e1, e2, _⟩ := sys_low k hlt
      have hf2 := fun W => fold1_any ⟨(sysF k).toArray⟩ W (by show (sysF k).toArray.size ≤ _; simp; omega)
      have hls : lowS ⟨(sysF k).toArray⟩ = ⟨(sysL k).toArray⟩ := by rw [← e1]; rfl
      rw [hls] at hf2
      have hkey := keyOf_sys k hlt
      clear e1 e2 hls
      by_cases heq : sysL k = t
      · have hb : (sysL k == t) = true := by rw [beq_iff_eq]; exact heq
        rw [heq, HQ.out] at hkey
        injection hkey with hk1 hk2
        subst hk1
        subst hk2
        clear HQ
        generalize sysF k = sf at hsy hf2
        generalize hsk : sysK k = sk at hsy
        have HSK := Lib.hid hsk
        generalize sysL k = sl at hb hf2
        clear heq hsk
        go_wp2_with (first
          | (go_at_call 54; refine hsy.mono ?_; rintro e w2 ⟨rfl, hb2⟩; have HB2 := Lib.hid (bthen HB.out hb2); clear hb2 hsy)
          | (go_at_call 17; with_reducible refine (hf2 _).mono ?_; rintro e w3 ⟨rfl, hb3⟩; have HB3 := Lib.hid (bthen HB2.out hb3); clear hb3 hf2)
          | (go_at_call 17; with_reducible refine (hf _).mono ?_; rintro e w4 ⟨rfl, hb4⟩; have HB4 := Lib.hid (bthen HB3.out hb4); clear hb4)
          | fail)
        go_ret2
        exact ⟨by rw [HSK.out]; rfl, HB4.out⟩
      · have hb : (sysL k == t) = false := by rw [beq_eq_false_iff_ne]; exact heq
        have HU2 : Hid (∀ j, j < k + 1 → t ≠ sysL j) := Lib.hid fun j hj => by
          by_cases hjk : j = k
          · subst hjk
            exact fun e => heq e.symm
          · exact HU.out j (by omega)
        clear heq hkey
        generalize sysF k = sf at hsy hf2
        generalize sysK k = sk at hsy
        generalize sysL k = sl at hb hf2
        go_wp2_with (first
          | (go_at_call 54; refine hsy.mono ?_; rintro e w2 ⟨rfl, hb2⟩; have HB2 := Lib.hid (bthen HB.out hb2); clear hb2 hsy)
          | (go_at_call 17; with_reducible refine (hf2 _).mono ?_; rintro e w3 ⟨rfl, hb3⟩; have HB3 := Lib.hid (bthen HB2.out hb3); clear hb3 hf2)
          | (go_at_call 17; with_reducible refine (hf _).mono ?_; rintro e w4 ⟨rfl, hb4⟩; have HB4 := Lib.hid (bthen HB3.out hb4); clear hb4)
          | fail)
        refine ⟨?_, by simp [intOf]; omega⟩
        first | exact ⟨k + 1, by omega, by go_num, HU2, HB4⟩ | ((repeat apply Exists.intro); exact ⟨⟨k + 1, by omega, by go_num, HU2, HB4⟩, rfl⟩)
    · have hk5 : k = 5 := by omega
      subst hk5
      have hns : t ∉ sysKeys := fun h => by
        obtain ⟨j, hj, he⟩ := sys_of t h
        exact HU.out j hj he
      have hR := fun W => rightKey_any ⟨t.toArray⟩ W (by show t.toArray.size ≤ _; simpa using HZ.out)
      simp only at hR
      have hq := HQ.out
      unfold keyOf at hq
      rw [if_neg hns] at hq
      clear hns HQ
      cases hr : rightL t
      · rw [hr] at hR hq
        rw [if_neg (by decide)] at hq
        injection hq with hq1 hq2
        subst hq1
        subst hq2
        clear hr
        go_wp2_with (first
          | (go_at_call 17; with_reducible refine (hf _).mono ?_; rintro e w4 ⟨rfl, hb4⟩; have HB4 := Lib.hid (bthen HB.out hb4); clear hb4)
          | (go_at_call 38; refine (hR _).mono ?_; rintro e w5 ⟨rfl, hb5⟩; have HB5 := Lib.hid (bthen HB4.out hb5); clear hb5)
          | fail)
        go_ret2
        exact ⟨rfl, HB5.out⟩
      · rw [hr] at hR hq
        rw [if_pos rfl] at hq
        injection hq with hq1 hq2
        subst hq1
        subst hq2
        clear hr
        go_wp2_with (first
          | (go_at_call 17; with_reducible refine (hf _).mono ?_; rintro e w4 ⟨rfl, hb4⟩; have HB4 := Lib.hid (bthen HB.out hb4); clear hb4)
          | (go_at_call 38; refine (hR _).mono ?_; rintro e w5 ⟨rfl, hb5⟩; have HB5 := Lib.hid (bthen HB4.out hb5); clear hb5)
          | fail)
        go_ret2
        exact ⟨rfl, HB5.out⟩

theorem flagOf_none (s : ByteArray) (h : ∀ j, j < 5 → s ≠ ⟨(sysK j).toArray⟩) : flagOf s = s := by
  unfold flagOf
  rw [if_neg (show ¬ s = ⟨#[36, 97, 110, 115, 119, 101, 114, 101, 100]⟩ from h 0 (by decide)), if_neg (show ¬ s = ⟨#[36, 102, 108, 97, 103, 103, 101, 100]⟩ from h 1 (by decide)), if_neg (show ¬ s = ⟨#[36, 100, 101, 108, 101, 116, 101, 100]⟩ from h 2 (by decide)), if_neg (show ¬ s = ⟨#[36, 115, 101, 101, 110]⟩ from h 3 (by decide)), if_neg (show ¬ s = ⟨#[36, 100, 114, 97, 102, 116]⟩ from h 4 (by decide))]

set_option maxRecDepth 100000 in
set_option maxHeartbeats 2000000 in
theorem refFlag_any (s : ByteArray) (w : World) :
    Calls Try.prog 39 #[.string s] w fun e w' => e = .returned (.string (flagOf s)) ∧ Below w.heap.size w w' := by
  obtain ⟨q, hq⟩ : ∃ q, flagOf s = q := ⟨_, rfl⟩
  rw [hq]
  have HQ := Lib.hid hq
  clear hq
  go_enter Try.func39, Try.ntmps39
  go_wp2
  go_loopw [3] (fun i wr => ∃ k : Nat, k ≤ 5 ∧ i = .int .i64 k ∧ Hid (∀ j, j < k → s ≠ ⟨(sysK j).toArray⟩) ∧ Hid (Below w.heap.size w wr)) (fun i _ => 5 - (intOf i).toNat)
  case atStart => exact ⟨0, by omega, rfl, Lib.hid (fun j hj => by omega), Lib.hid (Below.refl _ _)⟩
  case round =>
    obtain ⟨k, hk, rfl, HU, HB⟩ := hrel
    by_cases hlt : k < 5
    · have hsy := system_any k hlt wr
      obtain ⟨_, _, e3⟩ := sys_low k hlt
      by_cases heq : s = ⟨(sysK k).toArray⟩
      · have hqq : q = ⟨(sysF k).toArray⟩ := by rw [← HQ.out, heq, e3]
        subst hqq
        have hb : (sysK k == s.toList) = true := by rw [heq, ByteArray.toList_eq]; simp
        generalize hsf : sysF k = sf at hsy
        have HSF := Lib.hid hsf
        generalize sysK k = sk at hsy hb
        clear heq e3 HQ hsf
        go_wp2_with (first
          | (go_at_call 54; refine hsy.mono ?_; rintro e w2 ⟨rfl, hb2⟩; have HB2 := Lib.hid (bthen HB.out hb2); clear hb2 hsy)
          | fail)
        go_ret
        exact ⟨by rw [HSF.out]; rfl, HB2.out⟩
      · have hb : (sysK k == s.toList) = false := by
          rw [beq_eq_false_iff_ne, ByteArray.toList_eq]
          exact fun e => heq (of_dataL s _ e.symm)
        have HU2 : Hid (∀ j, j < k + 1 → s ≠ ⟨(sysK j).toArray⟩) := Lib.hid fun j hj => by
          by_cases hjk : j = k
          · subst hjk
            exact heq
          · exact HU.out j (by omega)
        clear heq e3
        generalize sysF k = sf at hsy
        generalize sysK k = sk at hsy hb
        go_wp2_with (first
          | (go_at_call 54; refine hsy.mono ?_; rintro e w2 ⟨rfl, hb2⟩; have HB2 := Lib.hid (bthen HB.out hb2); clear hb2 hsy)
          | fail)
        refine ⟨?_, by simp [intOf]; omega⟩
        first | exact ⟨k + 1, by omega, by go_num, HU2, HB2⟩ | ((repeat apply Exists.intro); exact ⟨⟨k + 1, by omega, by go_num, HU2, HB2⟩, rfl⟩)
    · have hk5 : k = 5 := by omega
      subst hk5
      have hqq : q = s := by rw [← HQ.out, flagOf_none s HU.out]
      subst hqq
      go_wp2
      go_ret
      exact ⟨rfl, HB.out⟩

end Go.Proofs.Ytkgpflobbmagaaa
