/-
  The walk of pillarboxref1.Fold: letters A to Z made small, in a row of bytes of the call's own.
  The walks of the reference's small functions: Atom, RightKey, system, Key, Flag.
  The walks of the reference's Key and Flag.
  The reference's day out of a text is the program's, plain.
  The walks of the reference's reading of a day.
-/
import Derived.Test.YtnfabgbidkddhaaGreatDoorGRG
import Derived.Test.YtnfabgbidkddhaaGreatDoorGCA
import Derived.Test.YtnfabgbidkddhaaGreatDoorGRC
import Derived.Deep.QuietTactic
import Derived.BigQuiet
import Derived.Deep.RegionWith
namespace Go.Proofs.YtnfabgbidkddhaaGreatDoor
open Go.RowKit

theorem lowB_big (c : UInt8) (h1 : 65 ≤ (c.toNat : Int)) (h2 : (c.toNat : Int) ≤ 90) : (c.toNat : Int) + 32 = ((lowB c).toNat : Int) := (lowN_big c h1 h2).symm
theorem lowB_other (c : UInt8) (h : ¬ (65 ≤ (c.toNat : Int) ∧ (c.toNat : Int) ≤ 90)) : lowB c = c := by
  have := lowN_other c h
  unfold lowN at this
  exact UInt8.toNat_inj.1 (by omega)

set_option maxRecDepth 100000 in
set_option maxHeartbeats 400000 in
theorem fold1_any (s : ByteArray) (w : World) (hs : s.size ≤ 140737488351232) :
    Calls Tryz.prog 47 #[.string s] w fun e w' => e = .returned (.string (lowS s)) ∧ Below w.heap.size w w' := by
  go_enter Tryz.func47, Tryz.ntmps47
  go_wp2_with (refine wpList_bytes_of rfl 9 46 5 _ rfl Tryz.underlying9 Tryz.underlying46 Tryz.underlying5 _ rfl ?_)
  intro cap w1 hcap _ hrow hb hlt1
  have hrow2 := Lib.hid hrow
  clear hrow
  go_wp2
  go_loopw [4] (fun i wr => ∃ k : Nat, k ≤ s.size ∧ i = .int .i64 k ∧ RowB wr w.heap.size (lowUpTo s.data.toList k) ∧ w.heap.size < wr.heap.size ∧ Below w.heap.size w wr) (fun i _ => s.size - (intOf i).toNat)
  case atStart => exact ⟨0, Nat.zero_le _, rfl, by rw [lowUpTo_zero]; exact hrow2.out, hlt1, hb⟩
  case round =>
    obtain ⟨k, hk, rfl, hrw, hsz, hb2⟩ := hrel
    by_cases hlt : k < s.size
    · have hkl : k < s.data.toList.length := by rw [lenB]; exact hlt
      have hk2 : k < (lowUpTo s.data.toList k).length := by rw [lowUpTo_length]; exact hkl
      obtain ⟨hc, hf⟩ := hrw k hk2
      rw [lowUpTo_at _ _ hkl hk2] at hc
      have HR := Lib.hid hrw
      have hset := lowUpTo_set s.data.toList k hkl
      have hstay := lowUpTo_stay s.data.toList k hkl
      have hbig := lowB_big s.data.toList[k]
      have hoth := lowB_other s.data.toList[k]
      generalize s.data.toList[k] = c at hc hset hstay hbig hoth
      have H1 := Lib.hid hset
      have H2 := Lib.hid hstay
      have H3 := Lib.hid hbig
      have H4 := Lib.hid hoth
      clear hrw hset hstay hbig hoth
      by_cases h1 : 65 ≤ (c.toNat : Int)
      · by_cases h2 : (c.toNat : Int) ≤ 90
        · go_wp2
          refine ⟨?_, by simp [intOf]; omega⟩
          have hr2 : RowB (wr.setCell ⟨w.heap.size, k, none⟩ (.int .u8 ((c.toNat : Int) + 32))) w.heap.size (lowUpTo s.data.toList (k + 1)) := by
            rw [← H1.out, H3.out h1 h2]
            exact HR.out.set k hk2 _
          have hb3 : Below w.heap.size w (wr.setCell ⟨w.heap.size, k, none⟩ (.int .u8 ((c.toNat : Int) + 32))) := hb2.setCell (Nat.le_refl _) _
          first | exact ⟨k + 1, by omega, by go_num, hr2, by simpa using hsz, hb3⟩ | ((repeat apply Exists.intro); exact ⟨⟨k + 1, by omega, by go_num, hr2, by simpa using hsz, hb3⟩, rfl⟩)
        · have hr2 : RowB wr w.heap.size (lowUpTo s.data.toList (k + 1)) := by
            rw [← H2.out (H4.out (fun h => h2 h.2))]
            exact HR.out
          have HR2 := Lib.hid hr2
          clear hr2
          go_wp2
          refine ⟨?_, by simp [intOf]; omega⟩
          first | exact ⟨k + 1, by omega, by go_num, HR2.out, hsz, hb2⟩ | ((repeat apply Exists.intro); exact ⟨⟨k + 1, by omega, by go_num, HR2.out, hsz, hb2⟩, rfl⟩)
      · have hr2 : RowB wr w.heap.size (lowUpTo s.data.toList (k + 1)) := by
          rw [← H2.out (H4.out (fun h => h1 h.1))]
          exact HR.out
        have HR2 := Lib.hid hr2
        clear hr2
        go_wp2
        refine ⟨?_, by simp [intOf]; omega⟩
        first | exact ⟨k + 1, by omega, by go_num, HR2.out, hsz, hb2⟩ | ((repeat apply Exists.intro); exact ⟨⟨k + 1, by omega, by go_num, HR2.out, hsz, hb2⟩, rfl⟩)
    · have hk3 : k = s.size := by omega
      subst hk3
      have hconv := run_string_row (P := Tryz.prog) (cap := cap) Tryz.underlying46 Tryz.underlying5 hrw s.size (by rw [lowUpTo_length, lenB]) 9 Tryz.underlying9
      rw [show lowUpTo s.data.toList s.size = lowL s.data.toList from by rw [← lenB, lowUpTo_all]] at hconv
      clear hrw
      go_wp2
      go_ret
      exact ⟨rfl, hb2⟩

end Go.Proofs.YtnfabgbidkddhaaGreatDoor

namespace Go.Proofs.YtnfabgbidkddhaaGreatDoor
open Go.RowKit
attribute [local go_sem ↓] Go.wp_at_zero Go.wp_at_succ

theorem below_drewN' {B : Nat} {w w' : World} (h : Below B w w') (n : Nat) : Below B w (w'.drewN n) := ⟨h.os, h.tape, h.output, h.size, h.block⟩

theorem atomB_all : ∀ n, n < 256 → atomB (UInt8.ofNat n) = (decide (33 ≤ n) && decide (n ≤ 126) && !(n == 40) && !(n == 41) && !(n == 123) && !(n == 125) && !(n == 37) && !(n == 42) && !(n == 34) && !(n == 92) && !(n == 93)) := by decide +kernel
theorem atomB_is (c : UInt8) : atomB c = (decide (33 ≤ c.toNat) && decide (c.toNat ≤ 126) && !(c.toNat == 40) && !(c.toNat == 41) && !(c.toNat == 123) && !(c.toNat == 125) && !(c.toNat == 37) && !(c.toNat == 42) && !(c.toNat == 34) && !(c.toNat == 92) && !(c.toNat == 93)) := by
  have h := atomB_all c.toNat c.toNat_lt
  rw [UInt8.ofNat_toNat] at h
  exact h

set_option maxRecDepth 100000 in
set_option maxHeartbeats 4000000 in
theorem refAtom_any (s : ByteArray) (w : World) (hs : s.size ≤ 140737488351232) :
    Calls Tryz.prog 140 #[.string s] w fun e w' => e = .returned (.bool (atomL s.data.toList)) ∧ w = w' := by
  obtain ⟨b, hb⟩ : ∃ b, atomL s.data.toList = b := ⟨_, rfl⟩
  rw [hb]
  have HB0 := Lib.hid hb
  clear hb
  go_enter Tryz.func140, Tryz.ntmps140
  go_wp2_with fail
  go_loop [3] (fun i => ∃ k : Nat, k ≤ s.size ∧ i = .int .i64 k ∧ Hid ((s.data.toList.take k).all atomB = true)) (fun i => s.size - (intOf i).toNat)
  case atStart => exact ⟨0, Nat.zero_le _, rfl, rfl⟩
  case round =>
    obtain ⟨k, hk, rfl, hall⟩ := hrel
    by_cases hlt : k < s.size
    · have H := Lib.hid hall
      clear hall
      have HNO := Lib.hid (fun h => HB0.out.symm.trans (atom_no s k hlt h))
      have HYES := Lib.hid (atom_take s k hlt H.out.out)
      have hat := atomB_is s[k]
      have HAT := Lib.hid hat
      clear hat
      by_cases c0 : (s[k].toNat : Int) < 33
      · have hf : decide (33 ≤ s[k].toNat) = false := decide_eq_false (by omega)
        have hn : b = false := HNO.out (by rw [HAT.out, hf]; simp)
        subst hn
        clear HNO HYES HAT hf HB0
        go_wp2_with fail
        go_ret
        exact ⟨rfl, rfl⟩
      · have p0 : decide (33 ≤ s[k].toNat) = true := decide_eq_true (by omega)
        have P0 := Lib.hid p0
        clear p0
        by_cases c1 : 126 < (s[k].toNat : Int)
        · have hf : decide (s[k].toNat ≤ 126) = false := decide_eq_false (by omega)
          have hn : b = false := HNO.out (by rw [HAT.out, hf]; simp)
          subst hn
          clear HNO HYES HAT hf HB0
          go_wp2_with fail
          go_ret
          exact ⟨rfl, rfl⟩
        · have p1 : decide (s[k].toNat ≤ 126) = true := decide_eq_true (by omega)
          have P1 := Lib.hid p1
          clear p1
          by_cases c2 : s[k].toNat = 40
          · have hf : (s[k].toNat == 40) = true := by simpa using c2
            have hn : b = false := HNO.out (by rw [HAT.out, hf]; simp)
            subst hn
            have d2 : ((s[k].toNat : Int) == 40) = true := by rw [beq_iff_eq]; omega
            clear HNO HYES HAT hf HB0 c2
            go_wp2_with fail
            go_ret
            exact ⟨rfl, rfl⟩
          · have p2 : (s[k].toNat == 40) = false := by simpa using c2
            have d2 : ((s[k].toNat : Int) == 40) = false := by rw [beq_eq_false_iff_ne]; omega
            clear c2
            have P2 := Lib.hid p2
            clear p2
            by_cases c3 : s[k].toNat = 41
            · have hf : (s[k].toNat == 41) = true := by simpa using c3
              have hn : b = false := HNO.out (by rw [HAT.out, hf]; simp)
              subst hn
              have d3 : ((s[k].toNat : Int) == 41) = true := by rw [beq_iff_eq]; omega
              clear HNO HYES HAT hf HB0 c3
              go_wp2_with fail
              go_ret
              exact ⟨rfl, rfl⟩
            · have p3 : (s[k].toNat == 41) = false := by simpa using c3
              have d3 : ((s[k].toNat : Int) == 41) = false := by rw [beq_eq_false_iff_ne]; omega
              clear c3
              have P3 := Lib.hid p3
              clear p3
              by_cases c4 : s[k].toNat = 123
              · have hf : (s[k].toNat == 123) = true := by simpa using c4
                have hn : b = false := HNO.out (by rw [HAT.out, hf]; simp)
                subst hn
                have d4 : ((s[k].toNat : Int) == 123) = true := by rw [beq_iff_eq]; omega
                clear HNO HYES HAT hf HB0 c4
                go_wp2_with fail
                go_ret
                exact ⟨rfl, rfl⟩
              · have p4 : (s[k].toNat == 123) = false := by simpa using c4
                have d4 : ((s[k].toNat : Int) == 123) = false := by rw [beq_eq_false_iff_ne]; omega
                clear c4
                have P4 := Lib.hid p4
                clear p4
                by_cases c5 : s[k].toNat = 125
                · have hf : (s[k].toNat == 125) = true := by simpa using c5
                  have hn : b = false := HNO.out (by rw [HAT.out, hf]; simp)
                  subst hn
                  have d5 : ((s[k].toNat : Int) == 125) = true := by rw [beq_iff_eq]; omega
                  clear HNO HYES HAT hf HB0 c5
                  go_wp2_with fail
                  go_ret
                  exact ⟨rfl, rfl⟩
                · have p5 : (s[k].toNat == 125) = false := by simpa using c5
                  have d5 : ((s[k].toNat : Int) == 125) = false := by rw [beq_eq_false_iff_ne]; omega
                  clear c5
                  have P5 := Lib.hid p5
                  clear p5
                  by_cases c6 : s[k].toNat = 37
                  · have hf : (s[k].toNat == 37) = true := by simpa using c6
                    have hn : b = false := HNO.out (by rw [HAT.out, hf]; simp)
                    subst hn
                    have d6 : ((s[k].toNat : Int) == 37) = true := by rw [beq_iff_eq]; omega
                    clear HNO HYES HAT hf HB0 c6
                    go_wp2_with fail
                    go_ret
                    exact ⟨rfl, rfl⟩
                  · have p6 : (s[k].toNat == 37) = false := by simpa using c6
                    have d6 : ((s[k].toNat : Int) == 37) = false := by rw [beq_eq_false_iff_ne]; omega
                    clear c6
                    have P6 := Lib.hid p6
                    clear p6
                    by_cases c7 : s[k].toNat = 42
                    · have hf : (s[k].toNat == 42) = true := by simpa using c7
                      have hn : b = false := HNO.out (by rw [HAT.out, hf]; simp)
                      subst hn
                      have d7 : ((s[k].toNat : Int) == 42) = true := by rw [beq_iff_eq]; omega
                      clear HNO HYES HAT hf HB0 c7
                      go_wp2_with fail
                      go_ret
                      exact ⟨rfl, rfl⟩
                    · have p7 : (s[k].toNat == 42) = false := by simpa using c7
                      have d7 : ((s[k].toNat : Int) == 42) = false := by rw [beq_eq_false_iff_ne]; omega
                      clear c7
                      have P7 := Lib.hid p7
                      clear p7
                      by_cases c8 : s[k].toNat = 34
                      · have hf : (s[k].toNat == 34) = true := by simpa using c8
                        have hn : b = false := HNO.out (by rw [HAT.out, hf]; simp)
                        subst hn
                        have d8 : ((s[k].toNat : Int) == 34) = true := by rw [beq_iff_eq]; omega
                        clear HNO HYES HAT hf HB0 c8
                        go_wp2_with fail
                        go_ret
                        exact ⟨rfl, rfl⟩
                      · have p8 : (s[k].toNat == 34) = false := by simpa using c8
                        have d8 : ((s[k].toNat : Int) == 34) = false := by rw [beq_eq_false_iff_ne]; omega
                        clear c8
                        have P8 := Lib.hid p8
                        clear p8
                        by_cases c9 : s[k].toNat = 92
                        · have hf : (s[k].toNat == 92) = true := by simpa using c9
                          have hn : b = false := HNO.out (by rw [HAT.out, hf]; simp)
                          subst hn
                          have d9 : ((s[k].toNat : Int) == 92) = true := by rw [beq_iff_eq]; omega
                          clear HNO HYES HAT hf HB0 c9
                          go_wp2_with fail
                          go_ret
                          exact ⟨rfl, rfl⟩
                        · have p9 : (s[k].toNat == 92) = false := by simpa using c9
                          have d9 : ((s[k].toNat : Int) == 92) = false := by rw [beq_eq_false_iff_ne]; omega
                          clear c9
                          have P9 := Lib.hid p9
                          clear p9
                          by_cases c10 : s[k].toNat = 93
                          · have hf : (s[k].toNat == 93) = true := by simpa using c10
                            have hn : b = false := HNO.out (by rw [HAT.out, hf]; simp)
                            subst hn
                            have d10 : ((s[k].toNat : Int) == 93) = true := by rw [beq_iff_eq]; omega
                            clear HNO HYES HAT hf HB0 c10
                            go_wp2_with fail
                            go_ret
                            exact ⟨rfl, rfl⟩
                          · have p10 : (s[k].toNat == 93) = false := by simpa using c10
                            have d10 : ((s[k].toNat : Int) == 93) = false := by rw [beq_eq_false_iff_ne]; omega
                            clear c10
                            have P10 := Lib.hid p10
                            clear p10
                            have HY := Lib.hid (HYES.out (by rw [HAT.out, P0.out, P1.out, P2.out, P3.out, P4.out, P5.out, P6.out, P7.out, P8.out, P9.out, P10.out]; rfl))
                            clear HNO HYES HAT P0 P1 P2 P3 P4 P5 P6 P7 P8 P9 P10
                            go_wp2_with fail
                            go_round
                            case rel => exact ⟨k + 1, by omega, by go_num, HY⟩
                            case measure => simp [intOf]; omega
    · have hkn : k = s.size := by omega
      subst hkn
      have hb : b = !s.data.toList.isEmpty := by
        rw [← HB0.out]
        unfold atomL
        have h1 := hall
        rw [List.take_of_length_le (by rw [lenB]; exact Nat.le_refl _)] at h1
        rw [h1.out]
        simp
      have HBB := Lib.hid hb
      clear hb hall
      go_wp2_with fail
      go_ret
      exact ⟨ret_bool (by rw [HBB.out, ← ByteArray.toList_eq]), rfl⟩

set_option maxRecDepth 100000 in
set_option maxHeartbeats 400000 in
theorem rightKey_any (s : ByteArray) (w : World) (hs : s.size ≤ 140737488351232) :
    Calls Tryz.prog 118 #[.string s] w fun e w' => e = .returned (.bool (rightL s.data.toList)) ∧ Below w.heap.size w w' := by
  obtain ⟨b, hb⟩ : ∃ b, rightL s.data.toList = b := ⟨_, rfl⟩
  rw [hb]
  have HB0 := Lib.hid hb
  clear hb
  obtain ⟨a, ha⟩ : ∃ a, atomL s.data.toList = a := ⟨_, rfl⟩
  have hat := refAtom_any s
  rw [ha] at hat
  have HA := Lib.hid ha
  clear ha
  go_enter Tryz.func118, Tryz.ntmps118
  cases a
  · go_wp2_with (first | (go_at_call 140; refine (hat _ hs).mono ?_; rintro e w' ⟨rfl, rfl⟩) | (go_at_call 47; refine (fold1_any _ _ hs).mono ?_; rintro e w' ⟨rfl, hb⟩))
    go_ret
    exact ⟨ret_bool (by rw [← HB0.out, rightL, HA.out]; rfl), Below.refl _ _⟩
  · go_wp2_with (first | (go_at_call 140; refine (hat _ hs).mono ?_; rintro e w' ⟨rfl, rfl⟩) | (go_at_call 47; refine (fold1_any _ _ hs).mono ?_; rintro e w' ⟨rfl, hb⟩))
    · go_ret
      refine ⟨ret_bool ?_, hb⟩
      rw [← HB0.out, rightL, HA.out, toList_beqB, decide_eq_true (by rw [lenB]; omega)]
      rfl
    · go_ret
      refine ⟨ret_bool ?_, Below.refl _ _⟩
      rw [← HB0.out, rightL, decide_eq_false (by rw [lenB]; omega)]
      simp

/-- The five of the system: the flag, made small, the keyword. -/
def sysF (k : Nat) : List UInt8 := [[92, 65, 110, 115, 119, 101, 114, 101, 100], [92, 70, 108, 97, 103, 103, 101, 100], [92, 68, 101, 108, 101, 116, 101, 100], [92, 83, 101, 101, 110], [92, 68, 114, 97, 102, 116]].getD k []
def sysL (k : Nat) : List UInt8 := sysKeys.getD k []
def sysK (k : Nat) : List UInt8 := 36 :: (sysL k).tail
theorem sys_low : ∀ k, k < 5 → lowL (sysF k) = sysL k ∧ (sysF k).length ≤ 9 ∧ flagOf ⟨(sysK k).toArray⟩ = ⟨(sysF k).toArray⟩ := by decide +kernel
theorem sys_mem : ∀ k, k < 5 → sysL k ∈ sysKeys := by decide +kernel
theorem sys_of (x : List UInt8) (h : x ∈ sysKeys) : ∃ k, k < 5 ∧ x = sysL k := by
  simp only [sysKeys, List.mem_cons, List.not_mem_nil, or_false] at h
  rcases h with h | h | h | h | h
  · exact ⟨0, by decide, h⟩
  · exact ⟨1, by decide, h⟩
  · exact ⟨2, by decide, h⟩
  · exact ⟨3, by decide, h⟩
  · exact ⟨4, by decide, h⟩

set_option maxRecDepth 100000 in
set_option maxHeartbeats 4000000 in
theorem system_any (i : Nat) (hi : i < 5) (w : World) : Calls Tryz.prog 117 #[.int .i64 i] w fun e w' =>
    e = .returned (.tuple #[.string ⟨(sysF i).toArray⟩, .string ⟨(sysK i).toArray⟩]) ∧ Below w.heap.size w w' := by
  have hb : ∀ (o o' : Obj) n, Below w.heap.size w (((w.alloc o).alloc o').drewN n) := fun o o' n => below_drewN' (((Below.refl _ w).alloc (Nat.le_refl _) o).alloc (by simp) o') n
  have HB := Lib.hid hb
  clear hb
  match i, hi with
  | 0, _ =>
    go_enter Tryz.func117, Tryz.ntmps117
    go_wp2_with fail
    go_quiet (fail)
    go_wp2_with fail
    go_ret2
    exact ⟨rfl, HB.out _ _ _⟩
  | 1, _ =>
    go_enter Tryz.func117, Tryz.ntmps117
    go_wp2_with fail
    go_quiet (fail)
    go_wp2_with fail
    go_ret2
    exact ⟨rfl, HB.out _ _ _⟩
  | 2, _ =>
    go_enter Tryz.func117, Tryz.ntmps117
    go_wp2_with fail
    go_quiet (fail)
    go_wp2_with fail
    go_ret2
    exact ⟨rfl, HB.out _ _ _⟩
  | 3, _ =>
    go_enter Tryz.func117, Tryz.ntmps117
    go_wp2_with fail
    go_quiet (fail)
    go_wp2_with fail
    go_ret2
    exact ⟨rfl, HB.out _ _ _⟩
  | 4, _ =>
    go_enter Tryz.func117, Tryz.ntmps117
    go_wp2_with fail
    go_quiet (fail)
    go_wp2_with fail
    go_ret2
    exact ⟨rfl, HB.out _ _ _⟩

end Go.Proofs.YtnfabgbidkddhaaGreatDoor

namespace Go.Proofs.YtnfabgbidkddhaaGreatDoor
open Go.RowKit
attribute [local go_sem ↓] Go.wp_at_zero Go.wp_at_succ

theorem keyOf_sys (k : Nat) (hk : k < 5) : keyOf (sysL k) = (sysK k, true) := by
  unfold keyOf
  rw [if_pos (sys_mem k hk)]
  rfl

set_option maxRecDepth 100000 in
set_option maxHeartbeats 2000000 in
theorem refKey_any (s : ByteArray) (w : World) (hs : s.size ≤ 140737488351232) :
    Calls Tryz.prog 83 #[.string s] w fun e w' => e = .returned (.tuple #[.string ⟨(keyOf (lowL s.data.toList)).1.toArray⟩, .bool (keyOf (lowL s.data.toList)).2]) ∧ Below w.heap.size w w' := by
  have hf := fun W => fold1_any s W hs
  have hls : lowS s = ⟨(lowL s.data.toList).toArray⟩ := rfl
  have hlz : (lowL s.data.toList).length ≤ 140737488351232 := by simpa [lowL] using hs
  rw [hls] at hf
  generalize lowL s.data.toList = t at hf hlz
  have HZ := Lib.hid hlz
  obtain ⟨kt, kb, hq⟩ : ∃ kt kb, keyOf t = (kt, kb) := ⟨_, _, rfl⟩
  rw [hq]
  have HQ := Lib.hid hq
  clear hls hlz hq
  go_enter Tryz.func83, Tryz.ntmps83
  go_wp2
  go_loopw [4] (fun i wr => ∃ k : Nat, k ≤ 5 ∧ i = .int .i64 k ∧ Hid (∀ j, j < k → t ≠ sysL j) ∧ Hid (Below w.heap.size w wr)) (fun i _ => 5 - (intOf i).toNat)
  case atStart => exact ⟨0, by omega, rfl, Lib.hid (fun j hj => by omega), Lib.hid (Below.refl _ _)⟩
  case round =>
    obtain ⟨k, hk, rfl, HU, HB⟩ := hrel
    by_cases hlt : k < 5
    · have hsy := system_any k hlt wr
      obtain ⟨e1, e2, _⟩ := sys_low k hlt
      have hf2 := fun W => fold1_any ⟨(sysF k).toArray⟩ W (by show (sysF k).toArray.size ≤ _; simp; omega)
      have hls : lowS ⟨(sysF k).toArray⟩ = ⟨(sysL k).toArray⟩ := by rw [← e1]; rfl
      rw [hls] at hf2
      have hkey := keyOf_sys k hlt
      clear e1 e2 hls
      by_cases heq : sysL k = t
      · have hb : (sysL k == t) = true := by rw [beq_iff_eq]; exact heq
        rw [heq, HQ.out] at hkey
        injection hkey with hk1 hk2
        subst hk1
        subst hk2
        clear HQ
        generalize sysF k = sf at hsy hf2
        generalize hsk : sysK k = sk at hsy
        have HSK := Lib.hid hsk
        generalize sysL k = sl at hb hf2
        clear heq hsk
        go_wp2_with (first
          | (go_at_call 117; refine hsy.mono ?_; rintro e w2 ⟨rfl, hb2⟩; have HB2 := Lib.hid (bthen HB.out hb2); clear hb2 hsy)
          | (go_at_call 47; with_reducible refine (hf2 _).mono ?_; rintro e w3 ⟨rfl, hb3⟩; have HB3 := Lib.hid (bthen HB2.out hb3); clear hb3 hf2)
          | (go_at_call 47; with_reducible refine (hf _).mono ?_; rintro e w4 ⟨rfl, hb4⟩; have HB4 := Lib.hid (bthen HB3.out hb4); clear hb4)
          | fail)
        go_ret2
        exact ⟨by rw [HSK.out]; rfl, HB4.out⟩
      · have hb : (sysL k == t) = false := by rw [beq_eq_false_iff_ne]; exact heq
        have HU2 : Hid (∀ j, j < k + 1 → t ≠ sysL j) := Lib.hid fun j hj => by
          by_cases hjk : j = k
          · subst hjk
            exact fun e => heq e.symm
          · exact HU.out j (by omega)
        clear heq hkey
        generalize sysF k = sf at hsy hf2
        generalize sysK k = sk at hsy
        generalize sysL k = sl at hb hf2
        go_wp2_with (first
          | (go_at_call 117; refine hsy.mono ?_; rintro e w2 ⟨rfl, hb2⟩; have HB2 := Lib.hid (bthen HB.out hb2); clear hb2 hsy)
          | (go_at_call 47; with_reducible refine (hf2 _).mono ?_; rintro e w3 ⟨rfl, hb3⟩; have HB3 := Lib.hid (bthen HB2.out hb3); clear hb3 hf2)
          | (go_at_call 47; with_reducible refine (hf _).mono ?_; rintro e w4 ⟨rfl, hb4⟩; have HB4 := Lib.hid (bthen HB3.out hb4); clear hb4)
          | fail)
        refine ⟨?_, by simp [intOf]; omega⟩
        first | exact ⟨k + 1, by omega, by go_num, HU2, HB4⟩ | ((repeat apply Exists.intro); exact ⟨⟨k + 1, by omega, by go_num, HU2, HB4⟩, rfl⟩)
    · have hk5 : k = 5 := by omega
      subst hk5
      have hns : t ∉ sysKeys := fun h => by
        obtain ⟨j, hj, he⟩ := sys_of t h
        exact HU.out j hj he
      have hR := fun W => rightKey_any ⟨t.toArray⟩ W (by show t.toArray.size ≤ _; simpa using HZ.out)
      simp only at hR
      have hq := HQ.out
      unfold keyOf at hq
      rw [if_neg hns] at hq
      clear hns HQ
      cases hr : rightL t
      · rw [hr] at hR hq
        rw [if_neg (by decide)] at hq
        injection hq with hq1 hq2
        subst hq1
        subst hq2
        clear hr
        go_wp2_with (first
          | (go_at_call 47; with_reducible refine (hf _).mono ?_; rintro e w4 ⟨rfl, hb4⟩; have HB4 := Lib.hid (bthen HB.out hb4); clear hb4)
          | (go_at_call 118; refine (hR _).mono ?_; rintro e w5 ⟨rfl, hb5⟩; have HB5 := Lib.hid (bthen HB4.out hb5); clear hb5)
          | fail)
        go_ret2
        exact ⟨rfl, HB5.out⟩
      · rw [hr] at hR hq
        rw [if_pos rfl] at hq
        injection hq with hq1 hq2
        subst hq1
        subst hq2
        clear hr
        go_wp2_with (first
          | (go_at_call 47; with_reducible refine (hf _).mono ?_; rintro e w4 ⟨rfl, hb4⟩; have HB4 := Lib.hid (bthen HB.out hb4); clear hb4)
          | (go_at_call 118; refine (hR _).mono ?_; rintro e w5 ⟨rfl, hb5⟩; have HB5 := Lib.hid (bthen HB4.out hb5); clear hb5)
          | fail)
        go_ret2
        exact ⟨rfl, HB5.out⟩

end Go.Proofs.YtnfabgbidkddhaaGreatDoor

namespace Go.Proofs.YtnfabgbidkddhaaGreatDoor
open Go.RowKit

def leapR (y : Int) : Bool := decide (y % 4 = 0) && (decide (y % 100 ≠ 0) || decide (y % 400 = 0))
def daysR (y m : Int) : Int := if m = 2 then (if leapR y = true then 29 else 28) else if m = 4 ∨ m = 6 ∨ m = 9 ∨ m = 11 then 30 else 31
def aheadR (y : Int) : Int := if y ≤ 0 then 0 else 365 * y + (y - 1) / 4 - (y - 1) / 100 + (y - 1) / 400 + 1
def sumD (y : Int) : Nat → Int
  | 0 => 0
  | k + 1 => sumD y k + daysR y ((k : Int) + 1)
def secR (y m d : Int) : Int × Bool := if y < 0 ∨ m < 1 ∨ d < 1 ∨ daysR y m < d then (0, false) else (86400 * (aheadR y - 719528 + d - 1 + sumD y (m.toNat - 1)), true)
def digR (l : List UInt8) : Int := match numGo l 0 with
  | none => -1
  | some n => n
def padR (l : List UInt8) : List UInt8 := if l.length = 10 then 48 :: l else l
def ansR (r : Int × Bool) : Int × Int := if r.2 = false ∨ r.1 < 0 then (0, 3) else (r.1, 0)
def rdayS (s : List UInt8) : Int × Int :=
  if s.length ≠ 11 ∨ s[2]? ≠ some 45 ∨ s[6]? ≠ some 45 then (0, 3) else ansR (secR (digR (s.drop 7)) (monthL ((s.take 6).drop 3)) (digR (s.take 2)))
def rdayL (l : List UInt8) : Int × Int := rdayS (padR l)

def aheadF (y : Int) : Int := 365 * y + (y + 399) / 4 - (y + 399) / 100 + (y + 399) / 400 - 96
theorem ahead_eq (y : Int) (hy : 0 ≤ y) : aheadR y = aheadF y := by
  unfold aheadR aheadF
  by_cases h : y ≤ 0
  · rw [if_pos h]
    omega
  · rw [if_neg h]
    omega
theorem daysP_400 (y m d : Int) : daysP (y + 400) m d = daysP y m d + 146097 := by
  unfold daysP
  by_cases h : m ≤ 2
  · simp only [if_pos h]
    have e : (y + 400 - 1 + 400) / 400 = (y - 1 + 400) / 400 + 1 := by omega
    rw [e]
    generalize (y - 1 + 400) / 400 = E
    have e2 : y + 400 - 1 + 400 - (E + 1) * 400 = y - 1 + 400 - E * 400 := by omega
    rw [e2]
    omega
  · simp only [if_neg h]
    have e : (y + 400 + 400) / 400 = (y + 400) / 400 + 1 := by omega
    rw [e]
    generalize (y + 400) / 400 = E
    have e2 : y + 400 + 400 - (E + 1) * 400 = y + 400 - E * 400 := by omega
    rw [e2]
    omega
theorem daysR_400 (y m : Int) : daysR (y + 400) m = daysR y m := by
  have e1 : (y + 400) % 4 = y % 4 := by omega
  have e2 : (y + 400) % 100 = y % 100 := by omega
  have e3 : (y + 400) % 400 = y % 400 := by omega
  unfold daysR leapR
  rw [e1, e2, e3]
theorem sumD_400 (y : Int) : ∀ k, sumD (y + 400) k = sumD y k
  | 0 => rfl
  | k + 1 => by
    unfold sumD
    rw [sumD_400 y k, daysR_400]
theorem days_base : ((List.range 400).all fun r => (List.range 13).all fun m => decide (m = 0) || (decide (daysP (r : Nat) (m : Nat) 0 = aheadF (r : Nat) - 719529 + sumD (r : Nat) (m - 1)) && decide (longP (r : Nat) (m : Nat) = daysR (r : Nat) (m : Nat)))) = true := by decide +kernel
theorem days_all (m : Nat) (hm : 1 ≤ m ∧ m ≤ 12) : ∀ (q r : Nat), r < 400 → daysP ((r + 400 * q : Nat) : Int) m 0 = aheadF ((r + 400 * q : Nat) : Int) - 719529 + sumD ((r + 400 * q : Nat) : Int) (m - 1) ∧ longP ((r + 400 * q : Nat) : Int) m = daysR ((r + 400 * q : Nat) : Int) m
  | 0, r, hr => by
    have h := List.all_eq_true.1 (List.all_eq_true.1 days_base r (List.mem_range.2 hr)) m (List.mem_range.2 (by omega))
    rw [decide_eq_false (by omega : ¬ m = 0), Bool.false_or, Bool.and_eq_true, decide_eq_true_eq, decide_eq_true_eq] at h
    simpa using h
  | q + 1, r, hr => by
    obtain ⟨h1, h2⟩ := days_all m hm q r hr
    have e : ((r + 400 * (q + 1) : Nat) : Int) = ((r + 400 * q : Nat) : Int) + 400 := by omega
    rw [e]
    generalize ((r + 400 * q : Nat) : Int) = y at *
    have hA : aheadF (y + 400) = aheadF y + 146097 := by
      unfold aheadF
      omega
    refine ⟨by rw [daysP_400, sumD_400, hA, h1]; omega, ?_⟩
    rw [daysR_400, ← h2]
    unfold longP
    rw [daysP_400, daysP_400]
    split <;> omega
theorem daysP_d (y m d : Int) : daysP y m d = daysP y m 0 + d := by
  unfold daysP
  simp only []
  omega
theorem long_days (y m : Int) (hy : 0 ≤ y ∧ y ≤ 9999) (hm : 1 ≤ m ∧ m ≤ 12) : longP y m = daysR y m := by
  have h := (days_all m.toNat (by omega) (y.toNat / 400) (y.toNat % 400) (Nat.mod_lt _ (by omega))).2
  have e : ((y.toNat % 400 + 400 * (y.toNat / 400) : Nat) : Int) = y := by omega
  have e2 : ((m.toNat : Nat) : Int) = m := by omega
  rw [e, e2] at h
  exact h
theorem days_sum (y m d : Int) (hy : 0 ≤ y ∧ y ≤ 9999) (hm : 1 ≤ m ∧ m ≤ 12) : daysP y m d = aheadR y - 719528 + d - 1 + sumD y (m.toNat - 1) := by
  have h := (days_all m.toNat (by omega) (y.toNat / 400) (y.toNat % 400) (Nat.mod_lt _ (by omega))).1
  have e : ((y.toNat % 400 + 400 * (y.toNat / 400) : Nat) : Int) = y := by omega
  have e2 : ((m.toNat : Nat) : Int) = m := by omega
  rw [e, e2] at h
  rw [daysP_d, h, ahead_eq y hy.1]
  omega

theorem numGo_dig : ∀ (l : List UInt8) (n m : Int), numGo l n = some m → ∀ b ∈ l, b ≠ 45
  | [], _, _, _ => by simp
  | c :: r, n, m, h => by
    unfold numGo at h
    split at h
    · cases h
    · rename_i hc
      intro b hb
      rcases List.mem_cons.1 hb with rfl | hb
      · rintro rfl
        exact hc (by decide)
      · exact numGo_dig r _ m h b hb
theorem monthL_pos {l : List UInt8} (h : monthL l ≠ 0) : l.length = 3 ∧ ∀ b ∈ l, b ≠ 45 := by
  have hm : lowL l ∈ monthNames := by
    unfold monthL at h
    split at h
    · exact absurd rfl h
    · rename_i k hk
      rw [List.findIdx?_eq_some_iff_getElem] at hk
      obtain ⟨hk1, hk2, _⟩ := hk
      have e : monthNames[k] = lowL l := by simpa using hk2
      rw [← e]
      exact List.getElem_mem hk1
  have hall : monthNames.all (fun m => decide (m.length = 3) && m.all (fun b => b != 45)) = true := by decide
  have h1 := List.all_eq_true.1 hall _ hm
  simp only [Bool.and_eq_true, decide_eq_true_eq, List.all_eq_true, bne_iff_ne] at h1
  refine ⟨by simpa [lowL] using h1.1, ?_⟩
  rintro b hb rfl
  exact h1.2 (lowB 45) (List.mem_map_of_mem hb) (by decide)
def joinC (c : UInt8) : List (List UInt8) → List UInt8
  | [] => []
  | [p] => p
  | p :: q :: r => p ++ c :: joinC c (q :: r)
theorem pieces_join (c : UInt8) : ∀ l : List UInt8, joinC c (piecesC c l) = l ∧ ∀ p ∈ piecesC c l, ∀ b ∈ p, b ≠ c
  | [] => by simp [piecesC, joinC]
  | b :: r => by
    obtain ⟨h1, h2⟩ := pieces_join c r
    have hne := piecesC_ne c r
    unfold piecesC
    split
    · rename_i hb
      subst hb
      refine ⟨?_, ?_⟩
      · cases hp : piecesC b r with
        | nil => exact absurd hp hne
        | cons p ps =>
          show [] ++ b :: joinC b (p :: ps) = b :: r
          rw [← hp, h1]
          rfl
      · intro p hp x hx
        rcases List.mem_cons.1 hp with rfl | hp
        · simp at hx
        · exact h2 p hp x hx
    · rename_i hb
      cases hp : piecesC c r with
      | nil => exact absurd hp hne
      | cons p ps =>
        rw [hp] at h1 h2
        refine ⟨?_, ?_⟩
        · cases ps with
          | nil =>
            show b :: p = b :: r
            rw [← h1]
            rfl
          | cons q qs =>
            show b :: p ++ c :: joinC c (q :: qs) = b :: r
            rw [← h1]
            rfl
        · intro x hx y hy
          rcases List.mem_cons.1 hx with rfl | hx
          · rcases List.mem_cons.1 hy with rfl | hy
            · exact hb
            · exact h2 p (by simp) y hy
          · exact h2 x (by simp [hx]) y hy

/-- Three pieces of the right sizes. -/
def Day3 (l a b c : List UInt8) : Prop := l = a ++ 45 :: (b ++ 45 :: c) ∧ (∀ x ∈ a, x ≠ 45) ∧ (∀ x ∈ b, x ≠ 45) ∧ (∀ x ∈ c, x ≠ 45) ∧ 1 ≤ a.length ∧ a.length ≤ 2 ∧ b.length = 3 ∧ c.length = 4
theorem digR_eq (l : List UInt8) (h : l ≠ []) : digR l = if (digL l).2 = true then (digL l).1 else -1 := by
  unfold digR digL
  rw [if_neg h]
  cases numGo l 0 <;> simp
theorem digR_pad (l : List UInt8) : digR (48 :: l) = digR l := by
  unfold digR
  rw [show numGo (48 :: l) 0 = numGo l 0 from rfl]
theorem day_good {l a b c : List UInt8} (h : Day3 l a b c) : rdayL l = dayL l := by
  obtain ⟨rfl, ha, hb, hc, h1, h2, h3, h4⟩ := h
  have hp : piecesC 45 (a ++ 45 :: (b ++ 45 :: c)) = [a, b, c] := by
    rw [piecesC_cut 45 a _ ha, piecesC_cut 45 b _ hb, piecesC_end 45 c hc]
  have hd : dayL (a ++ 45 :: (b ++ 45 :: c)) = dayOf (dateL a b c) := by
    unfold dayL
    rw [hp]
    show (if 2 < a.length then (0, 3) else dayOf (dateL a b c)) = _
    rw [if_neg (by omega)]
  have hs : rdayL (a ++ 45 :: (b ++ 45 :: c)) = ansR (secR (digR c) (monthL b) (digR a)) := by
    match a, h1, h2, b, h3, c, h4 with
    | [a0], _, _, [b0, b1, b2], _, [c0, c1, c2, c3], _ =>
      have e : rdayL ([a0] ++ 45 :: ([b0, b1, b2] ++ 45 :: [c0, c1, c2, c3])) = ansR (secR (digR [c0, c1, c2, c3]) (monthL [b0, b1, b2]) (digR [48, a0])) := rfl
      rw [e, digR_pad [a0]]
    | [a0, a1], _, _, [b0, b1, b2], _, [c0, c1, c2, c3], _ => rfl
  rw [hd, hs]
  have hna : a ≠ [] := by
    rintro rfl
    simp at h1
  have hnc : c ≠ [] := by
    rintro rfl
    simp at h4
  rw [digR_eq a hna, digR_eq c hnc]
  obtain ⟨ra1, ra2⟩ := digL_rng a
  obtain ⟨rc1, rc2⟩ := digL_rng c
  rw [h4] at rc2
  obtain ⟨rm1, rm2⟩ := monthL_rng b
  have hbad : ∀ y m d : Int, y < 0 ∨ m < 1 ∨ d < 1 ∨ daysR y m < d → ansR (secR y m d) = (0, 3) := fun y m d h => by
    unfold secR
    rw [if_pos h]
    rfl
  unfold dateL
  generalize (digL a).1 = d at *
  generalize (digL c).1 = y at *
  generalize monthL b = m at *
  by_cases ca : (digL a).2 = true
  · by_cases cc : (digL c).2 = true
    · rw [if_pos ca, if_pos cc]
      by_cases cm : m = 0
      · rw [if_neg (by rintro ⟨_, _, _, h, _⟩; exact h cm), hbad _ _ _ (by omega)]
        rfl
      · have hy : 0 ≤ y ∧ y ≤ 9999 := by
          have : (10 : Int) ^ 4 = 10000 := by decide
          omega
        have hm : 1 ≤ m ∧ m ≤ 12 := by omega
        rw [long_days y m hy hm]
        by_cases cd : 1 ≤ d ∧ d ≤ daysR y m
        · rw [if_pos ⟨ca, cc, h4, cm, cd.1, cd.2⟩]
          unfold secR
          rw [if_neg (by omega), days_sum y m d hy hm]
          unfold dayOf ansR
          simp only [Bool.true_eq_false, false_or]
          generalize (aheadR y - 719528 + d - 1 + sumD y (m.toNat - 1)) = N
          by_cases hN : N < 0
          · rw [if_pos (by omega), if_pos hN]
          · rw [if_neg (by omega), if_neg hN, Int.mul_comm]
        · rw [if_neg (by rintro ⟨_, _, _, _, h5, h6⟩; exact cd ⟨h5, h6⟩), hbad _ _ _ (by omega)]
          rfl
    · rw [if_neg cc, if_neg (show ¬ ((digL a).2 = true ∧ (digL c).2 = true ∧ c.length = 4 ∧ m ≠ 0 ∧ 1 ≤ d ∧ d ≤ longP y m) from fun h => cc h.2.1), hbad _ _ _ (by omega)]
      rfl
  · rw [if_neg ca, if_neg (show ¬ ((digL a).2 = true ∧ (digL c).2 = true ∧ c.length = 4 ∧ m ≠ 0 ∧ 1 ≤ d ∧ d ≤ longP y m) from fun h => ca h.1), hbad _ _ _ (by omega)]
    rfl
theorem dayL_bad {l : List UInt8} (h : ∀ a b c, ¬ Day3 l a b c) : dayL l = (0, 3) := by
  obtain ⟨h1, h2⟩ := pieces_join 45 l
  unfold dayL day3
  split
  · rename_i a b c hp
    split
    · rfl
    · rename_i ha
      rw [hp] at h1 h2
      have hnone : dateL a b c = none := by
        unfold dateL
        rw [if_neg]
        rintro ⟨x1, x2, x3, x4, x5, x6⟩
        refine h a b c ⟨h1.symm, h2 a (by simp), h2 b (by simp), h2 c (by simp), ?_, by omega, (monthL_pos x4).1, x3⟩
        cases a with
        | nil => simp [digL] at x1
        | cons => simp
      rw [hnone]
      rfl
  · rfl
theorem secR_ok {y m d : Int} (h : (secR y m d).2 = true) : 0 ≤ y ∧ 1 ≤ m ∧ 1 ≤ d := by
  unfold secR at h
  split at h
  · cases h
  · omega
theorem digR_ok {l : List UInt8} (h : 0 ≤ digR l) : ∀ b ∈ l, b ≠ 45 := by
  unfold digR at h
  cases hn : numGo l 0 with
  | none =>
    rw [hn] at h
    exact absurd h (by decide)
  | some n => exact numGo_dig l 0 n hn
theorem rday_bad {l : List UInt8} (h : ∀ a b c, ¬ Day3 l a b c) : rdayL l = (0, 3) := by
  unfold rdayL rdayS
  split
  · rfl
  · rename_i hs
    unfold ansR
    split
    · rfl
    · rename_i hg
      exfalso
      have hok : (secR (digR ((padR l).drop 7)) (monthL (((padR l).take 6).drop 3)) (digR ((padR l).take 2))).2 = true := by
        cases hv : (secR (digR ((padR l).drop 7)) (monthL (((padR l).take 6).drop 3)) (digR ((padR l).take 2))).2 with
        | true => rfl
        | false => exact absurd (Or.inl hv) hg
      obtain ⟨y1, y2, y3⟩ := secR_ok hok
      have q1 := digR_ok y1
      obtain ⟨_, q2⟩ := monthL_pos (l := ((padR l).take 6).drop 3) (by omega)
      have q3 := digR_ok (l := (padR l).take 2) (by omega)
      have hlen : (padR l).length = 11 := by
        by_cases e : (padR l).length = 11
        · exact e
        · exact absurd (Or.inl e) hs
      have h2 : (padR l)[2]? = some 45 := by
        by_cases e : (padR l)[2]? = some 45
        · exact e
        · exact absurd (Or.inr (Or.inl e)) hs
      have h6 : (padR l)[6]? = some 45 := by
        by_cases e : (padR l)[6]? = some 45
        · exact e
        · exact absurd (Or.inr (Or.inr e)) hs
      clear hs hg hok y1 y2 y3
      by_cases h10 : l.length = 10
      · have hp : padR l = 48 :: l := by unfold padR; rw [if_pos h10]
        rw [hp] at q1 q2 q3 h2 h6
        match l, h10 with
        | [x0, x1, x2, x3, x4, x5, x6, x7, x8, x9], _ =>
          simp at h2 h6
          subst h2 h6
          exact h [x0] [x2, x3, x4] [x6, x7, x8, x9] ⟨rfl, fun x hx => q3 x (by simp at hx ⊢; exact .inr hx), fun x hx => q2 x hx, fun x hx => q1 x hx, by simp, by simp, rfl, rfl⟩
      · have hp : padR l = l := by unfold padR; rw [if_neg h10]
        rw [hp] at q1 q2 q3 h2 h6 hlen
        match l, hlen with
        | [x0, x1, x2, x3, x4, x5, x6, x7, x8, x9, x10], _ =>
          simp at h2 h6
          subst h2 h6
          exact h [x0, x1] [x3, x4, x5] [x7, x8, x9, x10] ⟨rfl, fun x hx => q3 x hx, fun x hx => q2 x hx, fun x hx => q1 x hx, by simp, by simp, rfl, rfl⟩
theorem rday_eq (l : List UInt8) : rdayL l = dayL l := by
  by_cases h : ∃ a b c, Day3 l a b c
  · obtain ⟨a, b, c, h⟩ := h
    exact day_good h
  · have h' : ∀ a b c, ¬ Day3 l a b c := fun a b c hd => h ⟨a, b, c, hd⟩
    rw [dayL_bad h', rday_bad h']

end Go.Proofs.YtnfabgbidkddhaaGreatDoor

namespace Go.Proofs.YtnfabgbidkddhaaGreatDoor
open Go.RowKit
attribute [local go_sem ↓] Go.wp_at_zero Go.wp_at_succ

set_option maxHeartbeats 1000000 in
theorem leap_anyR (y : Nat) (w : World) : Calls Tryz.prog 185 #[.int .i64 (y : Int)] w fun e w' => e = .returned (.bool (leapR y)) ∧ w = w' := by
  obtain ⟨r, hr⟩ : ∃ r, leapR (y : Int) = r := ⟨_, rfl⟩
  rw [hr]
  unfold leapR at hr
  obtain ⟨a, ha⟩ : ∃ a, (y : Int) % 4 = a := ⟨_, rfl⟩
  obtain ⟨b, hb⟩ : ∃ b, (y : Int) % 100 = b := ⟨_, rfl⟩
  obtain ⟨c, hc⟩ : ∃ c, (y : Int) % 400 = c := ⟨_, rfl⟩
  rw [ha, hb, hc] at hr
  by_cases a1 : a = 0
  · have a0 : (a == 0) = true := by rw [beq_iff_eq]; exact a1
    by_cases b1 : b = 0
    · have b0 : (b == 0) = true := by rw [beq_iff_eq]; exact b1
      have b2 : (b != 0) = false := by rw [bne, b0]; rfl
      by_cases c1 : c = 0
      · have c0 : (c == 0) = true := by rw [beq_iff_eq]; exact c1
        have hl : r = true := by rw [← hr, decide_eq_true a1, decide_eq_true c1, Bool.or_true]; rfl
        subst hl
        clear hr a1 b1 c1
        go_enter Tryz.func185, Tryz.ntmps185
        go_wp2
        go_ret
        exact ⟨rfl, rfl⟩
      · have c0 : (c == 0) = false := by rw [beq_eq_false_iff_ne]; exact c1
        have hl : r = false := by rw [← hr, decide_eq_false c1, decide_eq_false (not_not_intro b1), Bool.or_false, Bool.and_false]
        subst hl
        clear hr a1 b1 c1
        go_enter Tryz.func185, Tryz.ntmps185
        go_wp2
        go_ret
        exact ⟨rfl, rfl⟩
    · have b0 : (b == 0) = false := by rw [beq_eq_false_iff_ne]; exact b1
      have b2 : (b != 0) = true := by rw [bne, b0]; rfl
      have hl : r = true := by rw [← hr, decide_eq_true a1, decide_eq_true b1, Bool.true_or]; rfl
      subst hl
      clear hr a1 b1
      go_enter Tryz.func185, Tryz.ntmps185
      go_wp2
      go_ret
      exact ⟨rfl, rfl⟩
  · have a0 : (a == 0) = false := by rw [beq_eq_false_iff_ne]; exact a1
    have hl : r = false := by rw [← hr, decide_eq_false a1, Bool.false_and]
    subst hl
    clear hr a1
    go_enter Tryz.func185, Tryz.ntmps185
    go_wp2
    go_ret
    exact ⟨rfl, rfl⟩

set_option maxHeartbeats 2000000 in
theorem days_anyR (y : Nat) (m : Int) (hm : 1 ≤ m ∧ m ≤ 12) (w : World) : Calls Tryz.prog 167 #[.int .i64 (y : Int), .int .i64 m] w fun e w' => e = .returned (.int .i64 (daysR y m)) ∧ w = w' := by
  have hl := fun W => leap_anyR y W
  have h12 : m = 1 ∨ m = 2 ∨ m = 3 ∨ m = 4 ∨ m = 5 ∨ m = 6 ∨ m = 7 ∨ m = 8 ∨ m = 9 ∨ m = 10 ∨ m = 11 ∨ m = 12 := by omega
  clear hm
  unfold daysR
  generalize leapR (y : Int) = r at *
  rcases h12 with rfl | rfl | rfl | rfl | rfl | rfl | rfl | rfl | rfl | rfl | rfl | rfl
  case inr.inl =>
    cases r with
    | true =>
      go_enter Tryz.func167, Tryz.ntmps167
      go_wp2_with (first | (go_at_call 185; refine (hl _).mono ?_; rintro e w2 ⟨rfl, rfl⟩) | fail)
      go_ret
      exact ⟨rfl, rfl⟩
    | false =>
      go_enter Tryz.func167, Tryz.ntmps167
      go_wp2_with (first | (go_at_call 185; refine (hl _).mono ?_; rintro e w2 ⟨rfl, rfl⟩) | fail)
      go_ret
      exact ⟨rfl, rfl⟩
  all_goals
    go_enter Tryz.func167, Tryz.ntmps167
    go_wp2
    go_ret
    exact ⟨rfl, rfl⟩

set_option maxHeartbeats 1000000 in
theorem ahead_anyR (y : Nat) (hy : y ≤ 9999) (w : World) : Calls Tryz.prog 168 #[.int .i64 (y : Int)] w fun e w' => e = .returned (.int .i64 (aheadR y)) ∧ w = w' := by
  by_cases h0 : y = 0
  · subst h0
    go_enter Tryz.func168, Tryz.ntmps168
    go_wp2
    go_ret
    exact ⟨rfl, rfl⟩
  · have h1 : ¬ (y : Int) ≤ 0 := by omega
    have e0 : IntKind.i64.wrap ((y : Int) - 1) = (((y - 1 : Nat) : Nat) : Int) := by rw [IntWalk.i64_in _ (by omega)]; omega
    have e1 : IntKind.i64.wrap (365 * (y : Int)) = ((365 * y : Nat) : Int) := by rw [IntWalk.i64_in _ (by omega)]; omega
    unfold aheadR
    rw [if_neg h1]
    have e2 : (y : Int) - 1 = (((y - 1 : Nat) : Nat) : Int) := by omega
    have e3 : 365 * (y : Int) = ((365 * y : Nat) : Int) := by omega
    rw [e2, e3]
    generalize y - 1 = n at *
    have hn : n ≤ 365 * y := by omega
    generalize hN : 365 * y = N at *
    have hN2 : N ≤ 3649635 := by omega
    clear h0 e2 e3 hN
    have t4 : IntKind.i64.wrap ((n : Int).tdiv 4) = (n : Int) / 4 := IntWalk.i64_quo _ _ (by omega)
    have t100 : IntKind.i64.wrap ((n : Int).tdiv 100) = (n : Int) / 100 := IntWalk.i64_quo _ _ (by omega)
    have t400 : IntKind.i64.wrap ((n : Int).tdiv 400) = (n : Int) / 400 := IntWalk.i64_quo _ _ (by omega)
    have q4 : 0 ≤ (n : Int) / 4 ∧ (n : Int) / 4 ≤ 3649635 := by omega
    have q100 : 0 ≤ (n : Int) / 100 ∧ (n : Int) / 100 ≤ 3649635 := by omega
    have q400 : 0 ≤ (n : Int) / 400 ∧ (n : Int) / 400 ≤ 3649635 := by omega
    go_enter Tryz.func168, Tryz.ntmps168
    go_wp2
    go_ret
    exact ⟨rfl, rfl⟩

set_option maxHeartbeats 1000000 in
theorem month_anyR (k : Nat) (hk : k < 12) (w : World) : Calls Tryz.prog 169 #[.int .i64 ((k : Int) + 1)] w fun e w' => e = .returned (.string (yearText.extract (3 * k) (3 * k + 3))) ∧ w = w' := by
  obtain ⟨a, ha⟩ : ∃ a, 3 * k = a := ⟨_, rfl⟩
  obtain ⟨c, hc⟩ : ∃ c, 3 * k + 3 = c := ⟨_, rfl⟩
  rw [ha, ← ha, hc, ha]
  have e1 : IntKind.i64.wrap ((c : Int) - 3) = (a : Int) := by rw [IntWalk.i64_in _ (by omega)]; omega
  have e2 : IntKind.i64.wrap (3 * ((k : Int) + 1)) = (c : Int) := by rw [IntWalk.i64_in _ (by omega)]; omega
  have b1 : (0 : Int) ≤ (c : Int) := by omega
  have b2 : (c : Int) ≤ 36 := by omega
  have b3 : (0 : Int) ≤ (a : Int) := by omega
  have b4 : (a : Int) ≤ (c : Int) := by omega
  have ec : c ≤ 36 := by omega
  have eac : a ≤ c := by omega
  have hyt : (⟨#[74, 97, 110, 70, 101, 98, 77, 97, 114, 65, 112, 114, 77, 97, 121, 74, 117, 110, 74, 117, 108, 65, 117, 103, 83, 101, 112, 79, 99, 116, 78, 111, 118, 68, 101, 99]⟩ : ByteArray).extract a c = yearText.extract a c := rfl
  generalize yearText.extract a c = nm at *
  clear ha hc
  go_enter Tryz.func169, Tryz.ntmps169
  go_wp2
  go_ret
  exact ⟨rfl, rfl⟩

set_option maxRecDepth 100000 in
set_option maxHeartbeats 1000000 in
theorem num_anyR (s : ByteArray) (w : World) (hs : s.size ≤ 15) :
    Calls Tryz.prog 142 #[.string s] w fun e w' => e = .returned (.int .i64 (digR s.data.toList)) ∧ w = w' := by
  obtain ⟨r, hb⟩ : ∃ r, digR s.data.toList = r := ⟨_, rfl⟩
  rw [hb]
  unfold digR at hb
  have HB := Lib.hid hb
  clear hb
  go_enter Tryz.func142, Tryz.ntmps142
  go_wp2_with fail
  go_loop [3, 4] (fun n i => ∃ (k : Nat) (v : Int), k ≤ s.size ∧ i = .int .i64 k ∧ n = .int .i64 v ∧ Hid (numGo (s.data.toList.drop k) v = numGo s.data.toList 0) ∧ Hid (0 ≤ v ∧ v < 10 ^ k)) (fun _ i => s.size - (intOf i).toNat)
  case atStart => exact ⟨0, 0, Nat.zero_le _, rfl, rfl, Lib.hid rfl, Lib.hid ⟨by decide, by decide⟩⟩
  case round =>
    obtain ⟨k, v, hk, rfl, rfl, HG, HV⟩ := hrel
    have v0 : 0 ≤ v := HV.out.1
    have v9 : v < 1000000000000000 := by
      have h2 : ∀ j : Nat, j ≤ 15 → (10 : Int) ^ j ≤ 1000000000000000 := by decide
      have := h2 k (by omega)
      have := HV.out.2
      omega
    by_cases hlt : k < s.size
    · by_cases h1 : (s[k].toNat : Int) < 48
      · have hn := HB.out
        rw [← HG.out, numGo_bad s k hlt v (.inl h1)] at hn
        have hn1 : _ = r := hn
        subst hn1
        clear HG HV HB
        go_wp2_with fail
        go_ret
        exact ⟨rfl, rfl⟩
      · by_cases h2 : 57 < (s[k].toNat : Int)
        · have hn := HB.out
          rw [← HG.out, numGo_bad s k hlt v (.inr h2)] at hn
          have hn1 : _ = r := hn
          subst hn1
          clear HG HV HB
          go_wp2_with fail
          go_ret
          exact ⟨rfl, rfl⟩
        · have HG2 := Lib.hid ((numGo_step s k hlt v h1 h2).symm.trans HG.out)
          have hp := pow10_step HV.out.1 HV.out.2 (show 0 ≤ (s[k].toNat : Int) - 48 by omega) (show (s[k].toNat : Int) - 48 ≤ 9 by omega)
          have HP := Lib.hid hp
          clear hp HG HV HB
          go_wp2_with fail
          go_round
          case rel => exact ⟨k + 1, v * 10 + ((s[k].toNat : Int) - 48), by omega, by go_num, by first | rfl | go_num, HG2, Lib.hid ⟨by omega, HP.out⟩⟩
          case measure => simp [intOf]; omega
    · have hk2 : k = s.size := by omega
      subst hk2
      have hn := HB.out
      rw [← HG.out, numGo_end] at hn
      have hn1 : _ = r := hn
      subst hn1
      clear HG HV HB
      go_wp2_with fail
      go_ret
      exact ⟨rfl, rfl⟩

set_option maxRecDepth 100000 in
set_option maxHeartbeats 2000000 in
theorem which_anyR (s : ByteArray) (w : World) (hs : s.size ≤ 140737488351232) :
    Calls Tryz.prog 143 #[.string s] w fun e w' => e = .returned (.int .i64 (monthL s.data.toList)) ∧ Below w.heap.size w w' := by
  obtain ⟨r, hr⟩ : ∃ r, monthL s.data.toList = r := ⟨_, rfl⟩
  rw [hr]
  have hf := fun W => fold1_any s W hs
  have ht : (lowS s).toList = lowL s.data.toList := by rw [ByteArray.toList_eq]; rfl
  have HR := Lib.hid hr
  have HT := Lib.hid ht
  generalize lowS s = fs at hf HT
  clear hr ht hs
  go_enter Tryz.func143, Tryz.ntmps143
  go_wp2_with fail
  go_loopw [3] (fun i wr => ∃ k : Nat, k ≤ 12 ∧ i = .int .i64 ((k : Int) + 1) ∧ Hid (∀ j, j < k → monthNames[j]? ≠ some (lowL s.data.toList)) ∧ Hid (Below w.heap.size w wr)) (fun i _ => 13 - (intOf i).toNat)
  case atStart => exact ⟨0, by omega, rfl, Lib.hid (fun j hj => by omega), Lib.hid (Below.refl _ _)⟩
  case round =>
    obtain ⟨k, hk, rfl, HU, HB⟩ := hrel
    by_cases hlt : k < 12
    · obtain ⟨hn1, hn2⟩ := year_month k hlt
      obtain ⟨a, ha⟩ : ∃ a, 3 * k = a := ⟨_, rfl⟩
      obtain ⟨c, hc⟩ : ∃ c, 3 * k + 3 = c := ⟨_, rfl⟩
      rw [ha, ← ha, hc, ha] at hn1 hn2
      have e1 : IntKind.i64.wrap ((c : Int) - 3) = (a : Int) := by rw [IntWalk.i64_in _ (by omega)]; omega
      have e2 : IntKind.i64.wrap (3 * ((k : Int) + 1)) = (c : Int) := by rw [IntWalk.i64_in _ (by omega)]; omega
      have b1 : (0 : Int) ≤ (c : Int) := by omega
      have b2 : (c : Int) ≤ 36 := by omega
      have b3 : (0 : Int) ≤ (a : Int) := by omega
      have b4 : (a : Int) ≤ (c : Int) := by omega
      have ec : c ≤ 36 := by omega
      have eac : a ≤ c := by omega
      have hyt : (⟨#[74, 97, 110, 70, 101, 98, 77, 97, 114, 65, 112, 114, 77, 97, 121, 74, 117, 110, 74, 117, 108, 65, 117, 103, 83, 101, 112, 79, 99, 116, 78, 111, 118, 68, 101, 99]⟩ : ByteArray).extract a c = yearText.extract a c := rfl
      have hmo := fun W => month_anyR k hlt W
      rw [hc, ha] at hmo
      generalize yearText.extract a c = nm at hn1 hn2 hyt hmo
      have hf2 := fun W => fold1_any nm W (by omega)
      have ht2 : (lowS nm).toList = lowL nm.data.toList := by rw [ByteArray.toList_eq]; rfl
      rw [← ht2] at hn1
      generalize lowS nm = fn at hf2 hn1
      have hmn : k ≤ 11 := by omega
      clear ha hc ht2 hn2
      by_cases he : fs.toList = fn.toList
      · have hcmp : (fs.toList == fn.toList) = true := by simpa using he
        have hm := monthL_hit s.data.toList k hlt HU.out (by rw [hn1, ← he, HT.out])
        rw [HR.out] at hm
        subst hm
        have HB0 := HB
        clear hn1 he HU
        go_wp2_with (first
          | (go_at_call 47; (with_reducible refine (hf _).mono ?_); rintro e w2 ⟨rfl, hb2⟩; have HB2 := Lib.hid hb2; clear hb2 hf)
          | (go_at_call 169; refine (hmo _).mono ?_; rintro e wm ⟨rfl, rfl⟩)
          | (go_at_call 47; (with_reducible refine (hf2 _).mono ?_); rintro e w3 ⟨rfl, hb3⟩; have HB3 := Lib.hid hb3; clear hb3)
          | fail)
        all_goals
          have HB4 := Lib.hid (belowD (belowD HB0.out HB2.out) HB3.out)
          go_ret
          exact ⟨rfl, HB4.out⟩
      · have hcmp : (fs.toList == fn.toList) = false := by simpa using he
        have HU2 : Hid (∀ j, j < k + 1 → monthNames[j]? ≠ some (lowL s.data.toList)) := Lib.hid (by
          intro j hj
          by_cases hjk : j = k
          · subst hjk
            rw [hn1, ← HT.out]
            intro h
            injection h with h
            exact he h.symm
          · exact HU.out j (by omega))
        have HB0 := HB
        clear hn1 he HU
        go_wp2_with (first
          | (go_at_call 47; (with_reducible refine (hf _).mono ?_); rintro e w2 ⟨rfl, hb2⟩; have HB2 := Lib.hid hb2; clear hb2 hf)
          | (go_at_call 169; refine (hmo _).mono ?_; rintro e wm ⟨rfl, rfl⟩)
          | (go_at_call 47; (with_reducible refine (hf2 _).mono ?_); rintro e w3 ⟨rfl, hb3⟩; have HB3 := Lib.hid hb3; clear hb3)
          | fail)
        all_goals
          have HB4 := Lib.hid (belowD (belowD HB0.out HB2.out) HB3.out)
          refine ⟨?_, by simp [intOf]; omega⟩
          first | exact ⟨k + 1, by omega, by go_num, HU2, HB4⟩ | ((repeat apply Exists.intro); exact ⟨⟨k + 1, by omega, by go_num, HU2, HB4⟩, rfl⟩)
    · have hk12 : k = 12 := by omega
      subst hk12
      have hm := monthL_miss s.data.toList HU.out
      rw [HR.out] at hm
      subst hm
      go_wp2
      go_ret
      exact ⟨rfl, HB.out⟩

theorem daysR_rng (y m : Int) : 28 ≤ daysR y m ∧ daysR y m ≤ 31 := by
  unfold daysR
  split
  · split <;> omega
  · split <;> omega
theorem sumD_rng (y : Int) : ∀ k : Nat, 0 ≤ sumD y k ∧ sumD y k ≤ 31 * (k : Int)
  | 0 => by simp [sumD]
  | k + 1 => by
    have h1 := sumD_rng y k
    have h2 := daysR_rng y ((k : Int) + 1)
    unfold sumD
    omega
theorem aheadR_rng (y : Nat) (hy : y ≤ 9999) : 0 ≤ aheadR y ∧ aheadR y ≤ 4000000 := by
  unfold aheadR
  split <;> omega

set_option maxRecDepth 100000 in
set_option maxHeartbeats 2000000 in
theorem seconds_anyR (y m d : Int) (hy : -1 ≤ y ∧ y ≤ 9999) (hm : 0 ≤ m ∧ m ≤ 12) (hd : -1 ≤ d ∧ d ≤ 99) (w : World) :
    Calls Tryz.prog 141 #[.int .i64 y, .int .i64 m, .int .i64 d] w fun e w' => e = .returned (.tuple #[.int .i64 (secR y m d).1, .bool (secR y m d).2]) ∧ w = w' := by
  obtain ⟨r1, r2, hr⟩ : ∃ r1 r2, secR y m d = (r1, r2) := ⟨_, _, rfl⟩
  rw [hr]
  unfold secR at hr
  by_cases c1 : y < 0
  · rw [if_pos (.inl c1)] at hr
    injection hr with h1 h2
    subst h1 h2
    go_enter Tryz.func141, Tryz.ntmps141
    go_wp2
    go_ret2
    exact ⟨rfl, rfl⟩
  by_cases c2 : m < 1
  · rw [if_pos (.inr (.inl c2))] at hr
    injection hr with h1 h2
    subst h1 h2
    go_enter Tryz.func141, Tryz.ntmps141
    go_wp2
    go_ret2
    exact ⟨rfl, rfl⟩
  by_cases c3 : d < 1
  · rw [if_pos (.inr (.inr (.inl c3)))] at hr
    injection hr with h1 h2
    subst h1 h2
    go_enter Tryz.func141, Tryz.ntmps141
    go_wp2
    go_ret2
    exact ⟨rfl, rfl⟩
  obtain ⟨Y, rfl⟩ : ∃ Y : Nat, y = Y := ⟨y.toNat, by omega⟩
  have hdm := fun W => days_anyR Y m ⟨by omega, by omega⟩ W
  have hah := fun W => ahead_anyR Y (by omega) W
  have h70 := fun W => ahead_anyR 1970 (by omega) W
  have hrg := aheadR_rng Y (by omega)
  have hdr := daysR_rng Y m
  rw [show aheadR ((1970 : Nat) : Int) = 719528 by decide] at h70
  by_cases c4 : daysR Y m < d
  · rw [if_pos (.inr (.inr (.inr c4)))] at hr
    injection hr with h1 h2
    subst h1 h2
    generalize daysR (Y : Int) m = DM at *
    go_enter Tryz.func141, Tryz.ntmps141
    go_wp2_with (first
      | (go_at_call 167; refine (hdm _).mono ?_; rintro e w2 ⟨rfl, rfl⟩)
      | fail)
    go_ret2
    exact ⟨rfl, rfl⟩
  rw [if_neg (by omega)] at hr
  have hall := fun (k : Nat) (hk : k < 12) W => days_anyR Y ((k : Int) + 1) ⟨by omega, by omega⟩ W
  have hsr := fun k => sumD_rng Y k
  have hsu : ∀ k : Nat, sumD Y (k + 1) = sumD Y k + daysR Y ((k : Int) + 1) := fun _ => rfl
  have hds : ∀ k : Nat, 28 ≤ daysR Y ((k : Int) + 1) ∧ daysR Y ((k : Int) + 1) ≤ 31 := fun k => daysR_rng Y _
  obtain ⟨M, rfl⟩ : ∃ M : Nat, m = (M : Int) + 1 := ⟨m.toNat - 1, by omega⟩
  have e1 : ((M : Int) + 1).toNat - 1 = M := by omega
  rw [e1] at hr
  obtain ⟨SD, hSD⟩ : ∃ SD, sumD (Y : Int) = SD := ⟨_, rfl⟩
  rw [hSD] at hr hsr hsu
  have HSR := Lib.hid hsr
  have HSU := Lib.hid hsu
  have HDS := Lib.hid hds
  have HALL := Lib.hid hall
  have hS0 : SD 0 = 0 := by rw [← hSD]; rfl
  have HS0 := Lib.hid hS0
  have HR := Lib.hid hr
  generalize daysR (Y : Int) ((M : Int) + 1) = DM at hdm c4 hdr
  generalize aheadR (Y : Int) = AH at *
  clear hr hsr hsu hds hall hSD hS0 c2
  have hM : M ≤ 11 := by omega
  go_enter Tryz.func141, Tryz.ntmps141
  go_wp2_with (first
    | (go_at_call 167; refine (hdm _).mono ?_; rintro e w2 ⟨rfl, rfl⟩)
    | (go_at_call 168; (with_reducible refine (hah _).mono ?_); rintro e w2 ⟨rfl, rfl⟩)
    | (go_at_call 168; refine (h70 _).mono ?_; rintro e w2 ⟨rfl, rfl⟩)
    | fail)
  go_loop [8, 9] (fun n i => ∃ (k : Nat) (v : Int), k ≤ M ∧ i = .int .i64 ((k : Int) + 1) ∧ n = .int .i64 v ∧ Hid (v = AH - 719528 + d - 1 + SD k)) (fun _ i => 13 - (intOf i).toNat)
  case atStart => exact ⟨0, _, Nat.zero_le _, rfl, rfl, Lib.hid (by rw [HS0.out]; omega)⟩
  case round =>
    obtain ⟨k, v, hk, rfl, rfl, HV⟩ := hrel
    have hv := HV.out
    have hs := HSR.out k
    have hvb : -800000 ≤ v ∧ v ≤ 5000000 := by omega
    by_cases hlt : k < M
    · have hc := HALL.out k (by omega)
      have hd2 := HDS.out k
      have hn : v + daysR (Y : Int) ((k : Int) + 1) = AH - 719528 + d - 1 + SD (k + 1) := by rw [HSU.out k]; omega
      have HN := Lib.hid hn
      generalize daysR (Y : Int) ((k : Int) + 1) = DK at *
      clear hv hs hn
      go_wp2_with (first
        | (go_at_call 167; refine (hc _).mono ?_; rintro e w2 ⟨rfl, rfl⟩)
        | fail)
      go_round
      case rel => exact ⟨k + 1, v + DK, by omega, by go_num, by first | rfl | go_num, HN⟩
      case measure => simp [intOf]; omega
    · have hkM : k = M := by omega
      subst hkM
      have h1 := HR.out
      rw [← hv] at h1
      injection h1 with h1 h2
      subst h1 h2
      clear hv hs
      go_wp2
      go_ret2
      exact ⟨rfl, rfl⟩

theorem dig_sub (p : ByteArray) (a b : Nat) : (p.extract a b).data.toList = (p.data.toList.take b).drop a := by
  rw [ByteArray.data_extract]
  simp [List.drop_take]
theorem digR_rng (l : List UInt8) : -1 ≤ digR l ∧ digR l < 10 ^ l.length := by
  unfold digR
  cases hn : numGo l 0 with
  | none => exact ⟨by simp, by have : (0 : Int) < 10 ^ l.length := Int.pow_pos (by decide); show (-1 : Int) < _; omega⟩
  | some n =>
    have h := numGo_bound l 0 n 0 (by decide) (by decide) hn
    rw [Nat.zero_add] at h
    exact ⟨by show _ ≤ n; omega, h.2⟩
theorem rdayS_len {s : List UInt8} (h : s.length ≠ 11) : rdayS s = (0, 3) := by
  unfold rdayS
  rw [if_pos (.inl h)]
/-- What a day's text reads as, behind the pad. -/
def ReadOut (w : World) (l : List UInt8) (e : Ending) (w' : World) : Prop := e = .returned (.tuple #[.int .i64 (rdayS l).1, .int .i64 (rdayS l).2]) ∧ Below w.heap.size w w'

set_option maxRecDepth 100000 in
set_option maxHeartbeats 4000000 in
theorem readDay_anyR (s : ByteArray) (w : World) (hs : s.size ≤ 1100) :
    Calls Tryz.prog 119 #[.string s] w fun e w' => e = .returned (.tuple #[.int .i64 (dayL s.data.toList).1, .int .i64 (dayL s.data.toList).2]) ∧ Below w.heap.size w w' := by
  rw [← rday_eq]
  show Calls Tryz.prog 119 #[.string s] w (ReadOut w (padR s.data.toList))
  have hlen : s.data.toList.length = s.size := by simp
  obtain ⟨p, hp, hpl⟩ : ∃ p : ByteArray, p = (if s.size = 10 then ⟨#[48]⟩ ++ s else s) ∧ p.data.toList = padR s.data.toList := by
    refine ⟨_, rfl, ?_⟩
    unfold padR
    by_cases h : s.size = 10
    · rw [if_pos h, if_pos (by omega)]
      rfl
    · rw [if_neg h, if_neg (by omega)]
  rw [← hpl]
  have hps : p.data.toList.length = p.size := by simp
  have hpz : p.size ≤ 1101 := by
    rw [hp]
    split
    · rw [ByteArray.size_append]
      have : (⟨#[48]⟩ : ByteArray).size = 1 := rfl
      omega
    · omega
  have hN1 := fun W => num_anyR (p.extract 7 p.size) W
  have hN2 := fun W => num_anyR (p.extract 0 2) W
  have hWh := fun W => which_anyR (p.extract 3 6) W
  rw [dig_sub] at hN1 hN2 hWh
  obtain ⟨r1, r2, hr⟩ : ∃ r1 r2, rdayS p.data.toList = (r1, r2) := ⟨_, _, rfl⟩
  have HR := Lib.hid hr
  have hout : ∀ w', Below w.heap.size w w' → ReadOut w p.data.toList (.returned (.tuple #[.int .i64 r1, .int .i64 r2])) w' := fun w' hb => ⟨by rw [hr], hb⟩
  have HOUT := Lib.hid hout
  clear hout
  by_cases h11 : p.size = 11
  · have g2 : 2 < p.size := by omega
    have g6 : 6 < p.size := by omega
    have hb2 : p.data.toList[2]? = some (p[2]'g2) := by
      rw [List.getElem?_eq_getElem (by omega)]
      rfl
    have hb6 : p.data.toList[6]? = some (p[6]'g6) := by
      rw [List.getElem?_eq_getElem (by omega)]
      rfl
    have hN1 := fun W => hN1 W (by simp; omega)
    have hN2 := fun W => hN2 W (by simp; omega)
    have hWh := fun W => hWh W (by simp; omega)
    have e7 : (p.data.toList.take p.size).drop 7 = p.data.toList.drop 7 := by rw [List.take_of_length_le (by omega)]
    rw [e7] at hN1
    simp only [h11] at hN1
    rw [List.drop_zero] at hN2
    have rg1 := digR_rng (p.data.toList.drop 7)
    have rg2 := digR_rng (p.data.toList.take 2)
    have rgm := monthL_rng ((p.data.toList.take 6).drop 3)
    rw [List.length_drop, hps, h11] at rg1
    rw [List.length_take, hps, h11] at rg2
    have hbadr : ((p[2]'g2) ≠ 45 ∨ (p[6]'g6) ≠ 45) → rdayS p.data.toList = (0, 3) := fun h => by
      unfold rdayS
      rw [if_pos]
      rw [hb2, hb6]
      rcases h with h | h
      · exact .inr (.inl fun e => h (Option.some.inj e))
      · exact .inr (.inr fun e => h (Option.some.inj e))
    have hgoodr : (p[2]'g2) = 45 → (p[6]'g6) = 45 → rdayS p.data.toList = ansR (secR (digR (p.data.toList.drop 7)) (monthL ((p.data.toList.take 6).drop 3)) (digR (p.data.toList.take 2))) := fun e1 e2 => by
      unfold rdayS
      rw [if_neg]
      rw [hb2, hb6, e1, e2]
      rintro (h | h | h)
      · omega
      · exact h rfl
      · exact h rfl
    generalize digR (p.data.toList.drop 7) = Y at *
    generalize digR (p.data.toList.take 2) = D at *
    generalize monthL ((p.data.toList.take 6).drop 3) = M at *
    have hY : -1 ≤ Y ∧ Y ≤ 9999 := by
      have : (10 : Int) ^ (11 - 7) = 10000 := by decide
      omega
    have hD : -1 ≤ D ∧ D ≤ 99 := by
      have : (10 : Int) ^ (min 2 11) = 100 := by decide
      omega
    have hSe := fun W => seconds_anyR Y M D hY rgm hD W
    obtain ⟨s1, s2, hsec⟩ : ∃ s1 s2, secR Y M D = (s1, s2) := ⟨_, _, rfl⟩
    rw [hsec] at hgoodr hSe
    have z11 : ((p.size : Int) != 11) = false := by rw [bne_eq_false_iff_eq]; omega
    obtain ⟨x2, hx2⟩ : ∃ x, p[2]'g2 = x := ⟨_, rfl⟩
    obtain ⟨x6, hx6⟩ : ∃ x, p[6]'g6 = x := ⟨_, rfl⟩
    rw [hx2, hx6] at hbadr hgoodr
    by_cases c2 : x2 = 45
    · by_cases c6 : x6 = 45
      · have hr2 := HR.out
        rw [hgoodr c2 c6] at hr2
        have y2 : ((x2.toNat : Int) != 45) = false := by rw [c2]; rfl
        have y6 : ((x6.toNat : Int) != 45) = false := by rw [c6]; rfl
        clear hbadr hgoodr hb2 hb6 c2 c6 e7
        have hex : 7 ≤ p.size := by omega
        cases s2 with
        | false =>
          injection hr2 with q1 q2
          subst q1 q2
          by_cases h10 : s.size = 10
          · rw [if_pos h10] at hp
            have hp' : (⟨#[48]⟩ : ByteArray) ++ s = p := hp.symm
            have s10 : ((s.size : Int) == 10) = true := by rw [beq_iff_eq]; omega
            have sap : ¬ 9223372036854775807 < (⟨#[48]⟩ : ByteArray).size + s.size := by have : (⟨#[48]⟩ : ByteArray).size = 1 := rfl; omega
            clear hp h10 hpl hlen
            go_enter Tryz.func119, Tryz.ntmps119
            go_upto_region 5 with (fail)
            go_region_with (first
              | (go_at_call 142; (with_reducible refine (hN1 _).mono ?_); rintro e w2 ⟨rfl, rfl⟩)
              | (go_at_call 143; refine (hWh _).mono ?_; rintro e w3 ⟨rfl, hb3⟩; have HB3 := Lib.hid (belowDD hb3); clear hb3)
              | (go_at_call 142; (with_reducible refine (hN2 _).mono ?_); rintro e w2 ⟨rfl, rfl⟩)
              | (go_at_call 141; refine (hSe _).mono ?_; rintro e w4 ⟨rfl, rfl⟩)
              | fail)
            all_goals
              go_wp2
              go_ret2
              exact HOUT.out _ HB3.out
          · rw [if_neg h10] at hp
            have s10 : ((p.size : Int) == 10) = false := by rw [beq_eq_false_iff_ne, hp]; omega
            subst hp
            clear h10 hpl hlen
            go_enter Tryz.func119, Tryz.ntmps119
            go_upto_region 5 with (fail)
            go_region_with (first
              | (go_at_call 142; (with_reducible refine (hN1 _).mono ?_); rintro e w2 ⟨rfl, rfl⟩)
              | (go_at_call 143; refine (hWh _).mono ?_; rintro e w3 ⟨rfl, hb3⟩; have HB3 := Lib.hid (belowDD hb3); clear hb3)
              | (go_at_call 142; (with_reducible refine (hN2 _).mono ?_); rintro e w2 ⟨rfl, rfl⟩)
              | (go_at_call 141; refine (hSe _).mono ?_; rintro e w4 ⟨rfl, rfl⟩)
              | fail)
            all_goals
              go_wp2
              go_ret2
              exact HOUT.out _ HB3.out
        | true =>
          by_cases sn : s1 < 0
          · have hr3 : ansR (s1, true) = (0, 3) := by unfold ansR; rw [if_pos (.inr sn)]
            rw [hr3] at hr2
            injection hr2 with q1 q2
            subst q1 q2
            by_cases h10 : s.size = 10
            · rw [if_pos h10] at hp
              have hp' : (⟨#[48]⟩ : ByteArray) ++ s = p := hp.symm
              have s10 : ((s.size : Int) == 10) = true := by rw [beq_iff_eq]; omega
              have sap : ¬ 9223372036854775807 < (⟨#[48]⟩ : ByteArray).size + s.size := by have : (⟨#[48]⟩ : ByteArray).size = 1 := rfl; omega
              clear hp h10 hpl hlen
              go_enter Tryz.func119, Tryz.ntmps119
              go_upto_region 5 with (fail)
              go_region_with (first
                | (go_at_call 142; (with_reducible refine (hN1 _).mono ?_); rintro e w2 ⟨rfl, rfl⟩)
                | (go_at_call 143; refine (hWh _).mono ?_; rintro e w3 ⟨rfl, hb3⟩; have HB3 := Lib.hid (belowDD hb3); clear hb3)
                | (go_at_call 142; (with_reducible refine (hN2 _).mono ?_); rintro e w2 ⟨rfl, rfl⟩)
                | (go_at_call 141; refine (hSe _).mono ?_; rintro e w4 ⟨rfl, rfl⟩)
                | fail)
              all_goals
                go_wp2
                go_ret2
                exact HOUT.out _ HB3.out
            · rw [if_neg h10] at hp
              have s10 : ((p.size : Int) == 10) = false := by rw [beq_eq_false_iff_ne, hp]; omega
              subst hp
              clear h10 hpl hlen
              go_enter Tryz.func119, Tryz.ntmps119
              go_upto_region 5 with (fail)
              go_region_with (first
                | (go_at_call 142; (with_reducible refine (hN1 _).mono ?_); rintro e w2 ⟨rfl, rfl⟩)
                | (go_at_call 143; refine (hWh _).mono ?_; rintro e w3 ⟨rfl, hb3⟩; have HB3 := Lib.hid (belowDD hb3); clear hb3)
                | (go_at_call 142; (with_reducible refine (hN2 _).mono ?_); rintro e w2 ⟨rfl, rfl⟩)
                | (go_at_call 141; refine (hSe _).mono ?_; rintro e w4 ⟨rfl, rfl⟩)
                | fail)
              all_goals
                go_wp2
                go_ret2
                exact HOUT.out _ HB3.out
          · have hr3 : ansR (s1, true) = (s1, 0) := by unfold ansR; rw [if_neg (by simp; omega)]
            rw [hr3] at hr2
            injection hr2 with q1 q2
            subst q1 q2
            by_cases h10 : s.size = 10
            · rw [if_pos h10] at hp
              have hp' : (⟨#[48]⟩ : ByteArray) ++ s = p := hp.symm
              have s10 : ((s.size : Int) == 10) = true := by rw [beq_iff_eq]; omega
              have sap : ¬ 9223372036854775807 < (⟨#[48]⟩ : ByteArray).size + s.size := by have : (⟨#[48]⟩ : ByteArray).size = 1 := rfl; omega
              clear hp h10 hpl hlen
              go_enter Tryz.func119, Tryz.ntmps119
              go_upto_region 5 with (fail)
              go_region_with (first
                | (go_at_call 142; (with_reducible refine (hN1 _).mono ?_); rintro e w2 ⟨rfl, rfl⟩)
                | (go_at_call 143; refine (hWh _).mono ?_; rintro e w3 ⟨rfl, hb3⟩; have HB3 := Lib.hid (belowDD hb3); clear hb3)
                | (go_at_call 142; (with_reducible refine (hN2 _).mono ?_); rintro e w2 ⟨rfl, rfl⟩)
                | (go_at_call 141; refine (hSe _).mono ?_; rintro e w4 ⟨rfl, rfl⟩)
                | fail)
              all_goals
                go_wp2
                go_ret2
                exact HOUT.out _ HB3.out
            · rw [if_neg h10] at hp
              have s10 : ((p.size : Int) == 10) = false := by rw [beq_eq_false_iff_ne, hp]; omega
              subst hp
              clear h10 hpl hlen
              go_enter Tryz.func119, Tryz.ntmps119
              go_upto_region 5 with (fail)
              go_region_with (first
                | (go_at_call 142; (with_reducible refine (hN1 _).mono ?_); rintro e w2 ⟨rfl, rfl⟩)
                | (go_at_call 143; refine (hWh _).mono ?_; rintro e w3 ⟨rfl, hb3⟩; have HB3 := Lib.hid (belowDD hb3); clear hb3)
                | (go_at_call 142; (with_reducible refine (hN2 _).mono ?_); rintro e w2 ⟨rfl, rfl⟩)
                | (go_at_call 141; refine (hSe _).mono ?_; rintro e w4 ⟨rfl, rfl⟩)
                | fail)
              all_goals
                go_wp2
                go_ret2
                exact HOUT.out _ HB3.out
      · have hr2 := HR.out
        rw [hbadr (.inr c6)] at hr2
        injection hr2 with q1 q2
        subst q1 q2
        have y2 : ((x2.toNat : Int) != 45) = false := by rw [c2]; rfl
        have y6 : ((x6.toNat : Int) != 45) = true := by
          rw [bne_iff_ne]
          intro e
          exact c6 (UInt8.toNat_inj.1 (by have : (45 : UInt8).toNat = 45 := rfl; omega))
        clear hbadr hgoodr hb2 hb6 c2 c6 hN1 hN2 hWh hps hpz e7 hSe
        by_cases h10 : s.size = 10
        · rw [if_pos h10] at hp
          have hp' : (⟨#[48]⟩ : ByteArray) ++ s = p := hp.symm
          have s10 : ((s.size : Int) == 10) = true := by rw [beq_iff_eq]; omega
          have sap : ¬ 9223372036854775807 < (⟨#[48]⟩ : ByteArray).size + s.size := by have : (⟨#[48]⟩ : ByteArray).size = 1 := rfl; omega
          clear hp h10 hpl hlen
          go_enter Tryz.func119, Tryz.ntmps119
          go_wp2
          go_ret2
          exact HOUT.out _ (Below.refl _ _)
        · rw [if_neg h10] at hp
          have s10 : ((p.size : Int) == 10) = false := by rw [beq_eq_false_iff_ne, hp]; omega
          subst hp
          clear h10 hpl hlen
          go_enter Tryz.func119, Tryz.ntmps119
          go_wp2
          go_ret2
          exact HOUT.out _ (Below.refl _ _)
    · have hr2 := HR.out
      rw [hbadr (.inl c2)] at hr2
      injection hr2 with q1 q2
      subst q1 q2
      have y2 : ((x2.toNat : Int) != 45) = true := by
        rw [bne_iff_ne]
        intro e
        exact c2 (UInt8.toNat_inj.1 (by have : (45 : UInt8).toNat = 45 := rfl; omega))
      clear hbadr hgoodr hb2 hb6 c2 hN1 hN2 hWh hps hpz e7 hSe
      by_cases h10 : s.size = 10
      · rw [if_pos h10] at hp
        have hp' : (⟨#[48]⟩ : ByteArray) ++ s = p := hp.symm
        have s10 : ((s.size : Int) == 10) = true := by rw [beq_iff_eq]; omega
        have sap : ¬ 9223372036854775807 < (⟨#[48]⟩ : ByteArray).size + s.size := by have : (⟨#[48]⟩ : ByteArray).size = 1 := rfl; omega
        clear hp h10 hpl hlen
        go_enter Tryz.func119, Tryz.ntmps119
        go_wp2
        go_ret2
        exact HOUT.out _ (Below.refl _ _)
      · rw [if_neg h10] at hp
        have s10 : ((p.size : Int) == 10) = false := by rw [beq_eq_false_iff_ne, hp]; omega
        subst hp
        clear h10 hpl hlen
        go_enter Tryz.func119, Tryz.ntmps119
        go_wp2
        go_ret2
        exact HOUT.out _ (Below.refl _ _)
  · by_cases h10 : s.size = 10
    · rw [if_pos h10] at hp
      have hp' : (⟨#[48]⟩ : ByteArray) ++ s = p := hp.symm
      have s10 : ((s.size : Int) == 10) = true := by rw [beq_iff_eq]; omega
      have sap : ¬ 9223372036854775807 < (⟨#[48]⟩ : ByteArray).size + s.size := by have : (⟨#[48]⟩ : ByteArray).size = 1 := rfl; omega
      clear hp h10 hpl hlen
      have z11 : ((p.size : Int) != 11) = true := by rw [bne_iff_ne]; omega
      have hr2 := HR.out
      rw [rdayS_len (by omega)] at hr2
      injection hr2 with q1 q2
      subst q1 q2
      clear hN1 hN2 hWh hps hpz h11
      go_enter Tryz.func119, Tryz.ntmps119
      go_wp2
      go_ret2
      exact HOUT.out _ (Below.refl _ _)
    · rw [if_neg h10] at hp
      have s10 : ((p.size : Int) == 10) = false := by rw [beq_eq_false_iff_ne, hp]; omega
      subst hp
      clear h10 hpl hlen
      have z11 : ((p.size : Int) != 11) = true := by rw [bne_iff_ne]; omega
      have hr2 := HR.out
      rw [rdayS_len (by omega)] at hr2
      injection hr2 with q1 q2
      subst q1 q2
      clear hN1 hN2 hWh hps hpz h11
      go_enter Tryz.func119, Tryz.ntmps119
      go_wp2
      go_ret2
      exact HOUT.out _ (Below.refl _ _)

end Go.Proofs.YtnfabgbidkddhaaGreatDoor
