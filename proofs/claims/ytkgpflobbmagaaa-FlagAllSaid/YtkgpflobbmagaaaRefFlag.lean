/-
  The walks of the reference's small functions: Atom, RightKey, system, Key, Flag.
-/
import Derived.Test.YtkgpflobbmagaaaFlagSmall
import Derived.Test.YtkgpflobbmagaaaFold1
namespace Go.Proofs.Ytkgpflobbmagaaa
open Go.RowKit Go.Sort
attribute [local go_sem ↓] Go.wp_at_zero Go.wp_at_succ

theorem atomB_all : ∀ n, n < 256 → atomB (UInt8.ofNat n) = (decide (33 ≤ n) && decide (n ≤ 126) && !(n == 40) && !(n == 41) && !(n == 123) && !(n == 125) && !(n == 37) && !(n == 42) && !(n == 34) && !(n == 92) && !(n == 93)) := by decide +kernel
theorem atomB_is (c : UInt8) : atomB c = (decide (33 ≤ c.toNat) && decide (c.toNat ≤ 126) && !(c.toNat == 40) && !(c.toNat == 41) && !(c.toNat == 123) && !(c.toNat == 125) && !(c.toNat == 37) && !(c.toNat == 42) && !(c.toNat == 34) && !(c.toNat == 92) && !(c.toNat == 93)) := by
  have h := atomB_all c.toNat c.toNat_lt
  rw [UInt8.ofNat_toNat] at h
  exact h

set_option maxRecDepth 100000 in
set_option maxHeartbeats 4000000 in
theorem refAtom_any (s : ByteArray) (w : World) (hs : s.size ≤ 140737488351232) :
    Calls Try.prog 55 #[.string s] w fun e w' => e = .returned (.bool (atomL s.data.toList)) ∧ w = w' := by
  obtain ⟨b, hb⟩ : ∃ b, atomL s.data.toList = b := ⟨_, rfl⟩
  rw [hb]
  have HB0 := Lib.hid hb
  clear hb
  go_enter Try.func55, Try.ntmps55
  go_wp2_with fail
  go_loop [3] (fun i => ∃ k : Nat, k ≤ s.size ∧ i = .int .i64 k ∧ Hid ((s.data.toList.take k).all atomB = true)) (fun i => s.size - (intOf i).toNat)
  case atStart => exact ⟨0, Nat.zero_le _, rfl, rfl⟩
  case round =>
    obtain ⟨k, hk, rfl, hall⟩ := hrel
    by_cases hlt : k < s.size
    · have H := Lib.hid hall
      clear hall
      have HNO := Lib.hid (fun h => HB0.out.symm.trans (atom_no s k hlt h))
      have HYES := Lib.hid (atom_take s k hlt H.out.out)
      have hat := atomB_is s[k]
      have HAT := Lib.hid hat
      clear hat
      by_cases c0 : (s[k].toNat : Int) < 33
      · have hf : decide (33 ≤ s[k].toNat) = false := decide_eq_false (by omega)
        have hn : b = false := HNO.out (by rw [HAT.out, hf]; simp)
        subst hn
        clear HNO HYES HAT hf HB0
        go_wp2_with fail
        go_ret
        exact ⟨rfl, rfl⟩
      · have p0 : decide (33 ≤ s[k].toNat) = true := decide_eq_true (by omega)
        have P0 := Lib.hid p0
        clear p0
        by_cases c1 : 126 < (s[k].toNat : Int)
        · have hf : decide (s[k].toNat ≤ 126) = false := decide_eq_false (by omega)
          have hn : b = false := HNO.out (by rw [HAT.out, hf]; simp)
          subst hn
          clear HNO HYES HAT hf HB0
          go_wp2_with fail
          go_ret
          exact ⟨rfl, rfl⟩
        · have p1 : decide (s[k].toNat ≤ 126) = true := decide_eq_true (by omega)
          have P1 := Lib.hid p1
          clear p1
          by_cases c2 : s[k].toNat = 40
          · have hf : (s[k].toNat == 40) = true := by simpa using c2
            have hn : b = false := HNO.out (by rw [HAT.out, hf]; simp)
            subst hn
            have d2 : ((s[k].toNat : Int) == 40) = true := by rw [beq_iff_eq]; omega
            clear HNO HYES HAT hf HB0 c2
            go_wp2_with fail
            go_ret
            exact ⟨rfl, rfl⟩
          · have p2 : (s[k].toNat == 40) = false := by simpa using c2
            have d2 : ((s[k].toNat : Int) == 40) = false := by rw [beq_eq_false_iff_ne]; omega
            clear c2
            have P2 := Lib.hid p2
            clear p2
            by_cases c3 : s[k].toNat = 41
            · have hf : (s[k].toNat == 41) = true := by simpa using c3
              have hn : b = false := HNO.out (by rw [HAT.out, hf]; simp)
              subst hn
              have d3 : ((s[k].toNat : Int) == 41) = true := by rw [beq_iff_eq]; omega
              clear HNO HYES HAT hf HB0 c3
              go_wp2_with fail
              go_ret
              exact ⟨rfl, rfl⟩
            · have p3 : (s[k].toNat == 41) = false := by simpa using c3
              have d3 : ((s[k].toNat : Int) == 41) = false := by rw [beq_eq_false_iff_ne]; omega
              clear c3
              have P3 := Lib.hid p3
              clear p3
              by_cases c4 : s[k].toNat = 123
              · have hf : (s[k].toNat == 123) = true := by simpa using c4
                have hn : b = false := HNO.out (by rw [HAT.out, hf]; simp)
                subst hn
                have d4 : ((s[k].toNat : Int) == 123) = true := by rw [beq_iff_eq]; omega
                clear HNO HYES HAT hf HB0 c4
                go_wp2_with fail
                go_ret
                exact ⟨rfl, rfl⟩
              · have p4 : (s[k].toNat == 123) = false := by simpa using c4
                have d4 : ((s[k].toNat : Int) == 123) = false := by rw [beq_eq_false_iff_ne]; omega
                clear c4
                have P4 := Lib.hid p4
                clear p4
                by_cases c5 : s[k].toNat = 125
                · have hf : (s[k].toNat == 125) = true := by simpa using c5
                  have hn : b = false := HNO.out (by rw [HAT.out, hf]; simp)
                  subst hn
                  have d5 : ((s[k].toNat : Int) == 125) = true := by rw [beq_iff_eq]; omega
                  clear HNO HYES HAT hf HB0 c5
                  go_wp2_with fail
                  go_ret
                  exact ⟨rfl, rfl⟩
                · have p5 : (s[k].toNat == 125) = false := by simpa using c5
                  have d5 : ((s[k].toNat : Int) == 125) = false := by rw [beq_eq_false_iff_ne]; omega
                  clear c5
                  have P5 := Lib.hid p5
                  clear p5
                  by_cases c6 : s[k].toNat = 37
                  · have hf : (s[k].toNat == 37) = true := by simpa using c6
                    have hn : b = false := HNO.out (by rw [HAT.out, hf]; simp)
                    subst hn
                    have d6 : ((s[k].toNat : Int) == 37) = true := by rw [beq_iff_eq]; omega
                    clear HNO HYES HAT hf HB0 c6
                    go_wp2_with fail
                    go_ret
                    exact ⟨rfl, rfl⟩
                  · have p6 : (s[k].toNat == 37) = false := by simpa using c6
                    have d6 : ((s[k].toNat : Int) == 37) = false := by rw [beq_eq_false_iff_ne]; omega
                    clear c6
                    have P6 := Lib.hid p6
                    clear p6
                    by_cases c7 : s[k].toNat = 42
                    · have hf : (s[k].toNat == 42) = true := by simpa using c7
                      have hn : b = false := HNO.out (by rw [HAT.out, hf]; simp)
                      subst hn
                      have d7 : ((s[k].toNat : Int) == 42) = true := by rw [beq_iff_eq]; omega
                      clear HNO HYES HAT hf HB0 c7
                      go_wp2_with fail
                      go_ret
                      exact ⟨rfl, rfl⟩
                    · have p7 : (s[k].toNat == 42) = false := by simpa using c7
                      have d7 : ((s[k].toNat : Int) == 42) = false := by rw [beq_eq_false_iff_ne]; omega
                      clear c7
                      have P7 := Lib.hid p7
                      clear p7
                      by_cases c8 : s[k].toNat = 34
                      · have hf : (s[k].toNat == 34) = true := by simpa using c8
                        have hn : b = false := HNO.out (by rw [HAT.out, hf]; simp)
                        subst hn
                        have d8 : ((s[k].toNat : Int) == 34) = true := by rw [beq_iff_eq]; omega
                        clear HNO HYES HAT hf HB0 c8
                        go_wp2_with fail
                        go_ret
                        exact ⟨rfl, rfl⟩
                      · have p8 : (s[k].toNat == 34) = false := by simpa using c8
                        have d8 : ((s[k].toNat : Int) == 34) = false := by rw [beq_eq_false_iff_ne]; omega
                        clear c8
                        have P8 := Lib.hid p8
                        clear p8
                        by_cases c9 : s[k].toNat = 92
                        · have hf : (s[k].toNat == 92) = true := by simpa using c9
                          have hn : b = false := HNO.out (by rw [HAT.out, hf]; simp)
                          subst hn
                          have d9 : ((s[k].toNat : Int) == 92) = true := by rw [beq_iff_eq]; omega
                          clear HNO HYES HAT hf HB0 c9
                          go_wp2_with fail
                          go_ret
                          exact ⟨rfl, rfl⟩
                        · have p9 : (s[k].toNat == 92) = false := by simpa using c9
                          have d9 : ((s[k].toNat : Int) == 92) = false := by rw [beq_eq_false_iff_ne]; omega
                          clear c9
                          have P9 := Lib.hid p9
                          clear p9
                          by_cases c10 : s[k].toNat = 93
                          · have hf : (s[k].toNat == 93) = true := by simpa using c10
                            have hn : b = false := HNO.out (by rw [HAT.out, hf]; simp)
                            subst hn
                            have d10 : ((s[k].toNat : Int) == 93) = true := by rw [beq_iff_eq]; omega
                            clear HNO HYES HAT hf HB0 c10
                            go_wp2_with fail
                            go_ret
                            exact ⟨rfl, rfl⟩
                          · have p10 : (s[k].toNat == 93) = false := by simpa using c10
                            have d10 : ((s[k].toNat : Int) == 93) = false := by rw [beq_eq_false_iff_ne]; omega
                            clear c10
                            have P10 := Lib.hid p10
                            clear p10
                            have HY := Lib.hid (HYES.out (by rw [HAT.out, P0.out, P1.out, P2.out, P3.out, P4.out, P5.out, P6.out, P7.out, P8.out, P9.out, P10.out]; rfl))
                            clear HNO HYES HAT P0 P1 P2 P3 P4 P5 P6 P7 P8 P9 P10
                            go_wp2_with fail
                            go_round
                            case rel => exact ⟨k + 1, by omega, by go_num, HY⟩
                            case measure => simp [intOf]; omega
    · have hkn : k = s.size := by omega
      subst hkn
      have hb : b = !s.data.toList.isEmpty := by
        rw [← HB0.out]
        unfold atomL
        have h1 := hall
        rw [List.take_of_length_le (by rw [lenB]; exact Nat.le_refl _)] at h1
        rw [h1.out]
        simp
      have HBB := Lib.hid hb
      clear hb hall
      go_wp2_with fail
      go_ret
      exact ⟨ret_bool (by rw [HBB.out, ← ByteArray.toList_eq]), rfl⟩

set_option maxRecDepth 100000 in
set_option maxHeartbeats 400000 in
theorem rightKey_any (s : ByteArray) (w : World) (hs : s.size ≤ 140737488351232) :
    Calls Try.prog 38 #[.string s] w fun e w' => e = .returned (.bool (rightL s.data.toList)) ∧ Below w.heap.size w w' := by
  obtain ⟨b, hb⟩ : ∃ b, rightL s.data.toList = b := ⟨_, rfl⟩
  rw [hb]
  have HB0 := Lib.hid hb
  clear hb
  obtain ⟨a, ha⟩ : ∃ a, atomL s.data.toList = a := ⟨_, rfl⟩
  have hat := refAtom_any s
  rw [ha] at hat
  have HA := Lib.hid ha
  clear ha
  go_enter Try.func38, Try.ntmps38
  cases a
  · go_wp2_with (first | (go_at_call 55; refine (hat _ hs).mono ?_; rintro e w' ⟨rfl, rfl⟩) | (go_at_call 17; refine (fold1_any _ _ hs).mono ?_; rintro e w' ⟨rfl, hb⟩))
    go_ret
    exact ⟨ret_bool (by rw [← HB0.out, rightL, HA.out]; rfl), Below.refl _ _⟩
  · go_wp2_with (first | (go_at_call 55; refine (hat _ hs).mono ?_; rintro e w' ⟨rfl, rfl⟩) | (go_at_call 17; refine (fold1_any _ _ hs).mono ?_; rintro e w' ⟨rfl, hb⟩))
    · go_ret
      refine ⟨ret_bool ?_, hb⟩
      rw [← HB0.out, rightL, HA.out, toList_beqB, decide_eq_true (by rw [lenB]; omega)]
      rfl
    · go_ret
      refine ⟨ret_bool ?_, Below.refl _ _⟩
      rw [← HB0.out, rightL, decide_eq_false (by rw [lenB]; omega)]
      simp

/-- The five of the system: the flag, made small, the keyword. -/
def sysF (k : Nat) : List UInt8 := [[92, 65, 110, 115, 119, 101, 114, 101, 100], [92, 70, 108, 97, 103, 103, 101, 100], [92, 68, 101, 108, 101, 116, 101, 100], [92, 83, 101, 101, 110], [92, 68, 114, 97, 102, 116]].getD k []
def sysL (k : Nat) : List UInt8 := sysKeys.getD k []
def sysK (k : Nat) : List UInt8 := 36 :: (sysL k).tail
theorem sys_low : ∀ k, k < 5 → lowL (sysF k) = sysL k ∧ (sysF k).length ≤ 9 ∧ flagOf ⟨(sysK k).toArray⟩ = ⟨(sysF k).toArray⟩ := by decide +kernel
theorem sys_mem : ∀ k, k < 5 → sysL k ∈ sysKeys := by decide +kernel
theorem sys_of (x : List UInt8) (h : x ∈ sysKeys) : ∃ k, k < 5 ∧ x = sysL k := by
  simp only [sysKeys, List.mem_cons, List.not_mem_nil, or_false] at h
  rcases h with h | h | h | h | h
  · exact ⟨0, by decide, h⟩
  · exact ⟨1, by decide, h⟩
  · exact ⟨2, by decide, h⟩
  · exact ⟨3, by decide, h⟩
  · exact ⟨4, by decide, h⟩

set_option maxRecDepth 100000 in
set_option maxHeartbeats 4000000 in
theorem system_any (i : Nat) (hi : i < 5) (w : World) : Calls Try.prog 54 #[.int .i64 i] w fun e w' =>
    e = .returned (.tuple #[.string ⟨(sysF i).toArray⟩, .string ⟨(sysK i).toArray⟩]) ∧ Below w.heap.size w w' := by
  have hb : ∀ (o o' : Obj) n, Below w.heap.size w (((w.alloc o).alloc o').drewN n) := fun o o' n => below_drewN' (((Below.refl _ w).alloc (Nat.le_refl _) o).alloc (by simp) o') n
  have HB := Lib.hid hb
  clear hb
  match i, hi with
  | 0, _ =>
    go_enter Try.func54, Try.ntmps54
    go_wp2_with fail
    go_quiet (fail)
    go_wp2_with fail
    go_ret2
    exact ⟨rfl, HB.out _ _ _⟩
  | 1, _ =>
    go_enter Try.func54, Try.ntmps54
    go_wp2_with fail
    go_quiet (fail)
    go_wp2_with fail
    go_ret2
    exact ⟨rfl, HB.out _ _ _⟩
  | 2, _ =>
    go_enter Try.func54, Try.ntmps54
    go_wp2_with fail
    go_quiet (fail)
    go_wp2_with fail
    go_ret2
    exact ⟨rfl, HB.out _ _ _⟩
  | 3, _ =>
    go_enter Try.func54, Try.ntmps54
    go_wp2_with fail
    go_quiet (fail)
    go_wp2_with fail
    go_ret2
    exact ⟨rfl, HB.out _ _ _⟩
  | 4, _ =>
    go_enter Try.func54, Try.ntmps54
    go_wp2_with fail
    go_quiet (fail)
    go_wp2_with fail
    go_ret2
    exact ⟨rfl, HB.out _ _ _⟩

end Go.Proofs.Ytkgpflobbmagaaa
