/-
  The walks of the laws' small functions: great, has, same; the number of an error.
-/
import Derived.Test.YtkgpflobbmagaaaKeysPlain
namespace Go.Proofs.Ytkgpflobbmagaaa
open Go.RowKit Go.Sort
attribute [local go_sem ↓] Go.wp_at_zero Go.wp_at_succ

theorem numF_any (w : World) (n : Int) : Calls Try.prog 20 #[.int .i64 n] w fun e w' => e = .returned (.int .i64 n) ∧ w = w' := by
  go_enter Try.func20, Try.ntmps20
  go_wp2
  go_ret
  exact ⟨rfl, rfl⟩

theorem qs {P : Program} {f : FuncId} {args : Array Value} {w : World} {n : Nat} {v : Value}
    (h : Calls P f args (w.drewN n) fun e w' => e = .returned v ∧ w.drewN n = w') : Calls P f args (w.drewN n) fun e w'' => e = .returned v ∧ ∃ m, w'' = w.drewN m :=
  Calls.quiet_of_same (h.mono fun _ _ ⟨a, b⟩ => ⟨a, b.symm⟩)
theorem below_drewN' {B : Nat} {w w' : World} (h : Below B w w') (n : Nat) : Below B w (w'.drewN n) := ⟨h.os, h.tape, h.output, h.size, h.block⟩
theorem RdS.drewN {w : World} {S : List Nat} {size n : Nat} {v : Value} {xs : List Value} (h : RdS w S size v n xs) (q : Nat) : RdS (w.drewN q) S size v n xs := h.below (below_drewN' (Below.refl _ _) q)

/-- More than is gone through. -/
def greatL (l : Texts) : Bool := (l.take 100).any (fun s => decide (300 < s.length)) || decide (100 < l.length)
theorem not_great {l : Texts} (h : greatL l = false) : l.length ≤ 100 ∧ ∀ s ∈ l, s.length ≤ 300 := by
  unfold greatL at h
  rw [Bool.or_eq_false_iff, decide_eq_false_iff_not] at h
  refine ⟨by omega, fun s hs => ?_⟩
  rw [List.take_of_length_le (by omega)] at h
  have := List.any_eq_false.1 h.1 s hs
  simp at this
  exact this

set_option maxRecDepth 100000 in
set_option maxHeartbeats 1000000 in
theorem great_any (w : World) (v : Value) (n : Nat) (l : Texts) (hn : l.length = n) (hr : RdS w [] 1 v n (l.map encStr)) :
    Calls Try.prog 32 #[v] w fun e w' => e = .returned (.bool (greatL l)) ∧ w = w' := by
  obtain ⟨A, cap, rfl, _, hcap⟩ := hr.form
  have hmb : n ≤ 9223372036854775807 := by
    unfold maxLen at hcap
    omega
  obtain ⟨ans, hans⟩ : ∃ ans, greatL l = ans := ⟨_, rfl⟩
  rw [hans]
  have HR := Lib.hid hr
  have HN := Lib.hid hn
  have HANS := Lib.hid hans
  clear hr hn hans
  go_enter Try.func32, Try.ntmps32
  go_wp2
  go_loop [3] (fun i => ∃ k : Nat, k ≤ n ∧ k ≤ 100 ∧ i = .int .i64 k ∧ Hid ((l.take k).any (fun s => decide (300 < s.length)) = false)) (fun i => n - (intOf i).toNat)
  case atStart => exact ⟨0, Nat.zero_le _, by omega, rfl, Lib.hid (by simp)⟩
  case round =>
    obtain ⟨k, hk, hk100, rfl, HU⟩ := hrel
    by_cases hlt : k < n
    · by_cases hl1 : k < 100
      · have hke : k < l.length := by rw [HN.out]; exact hlt
        obtain ⟨b, off, cap2, hva, hbl, _, d0⟩ := HR.out.str k hke
        injection hva with hva1 _ hva3
        subst hva1
        subst hva3
        have hsucc : (l.take (k + 1)).any (fun s => decide (300 < s.length)) = decide (300 < l[k].length) := by
          rw [List.take_succ_eq_append_getElem hke, List.any_append, HU.out]
          simp
        have hmem : l[k] ∈ l.take 100 := List.mem_take_iff_getElem.2 ⟨k, by omega, rfl⟩
        generalize l[k] = s at d0 hsucc hmem
        by_cases hs : 300 < s.length
        · have ht : ans = true := by
            rw [← HANS.out]
            unfold greatL
            rw [Bool.or_eq_true]
            exact .inl (List.any_eq_true.2 ⟨s, hmem, decide_eq_true hs⟩)
          subst ht
          have hs' : (300 : Int) < (s.toArray.size : Int) := by simp; omega
          have hs2 : 300 < s.toArray.size := by simpa using hs
          clear hsucc hmem
          go_wp2
          go_ret
          exact ⟨rfl, rfl⟩
        · rw [decide_eq_false hs] at hsucc
          have HU2 := Lib.hid hsucc
          have hs2 : ¬ 300 < s.toArray.size := by simpa using hs
          clear hsucc hmem
          go_wp2
          go_round
          case rel => exact ⟨k + 1, by omega, by omega, by go_num, HU2⟩
          case measure => simp [intOf]; omega
      · have hk1 : k = 100 := by omega
        subst hk1
        have ht : ans = true := by
          rw [← HANS.out]
          unfold greatL
          rw [Bool.or_eq_true]
          exact .inr (decide_eq_true (by rw [HN.out]; exact hlt))
        subst ht
        go_wp2
        go_ret
        exact ⟨rfl, rfl⟩
    · have hkn : k = n := by omega
      subst hkn
      have hf : ans = false := by
        rw [← HANS.out]
        unfold greatL
        have h1 := HU.out
        rw [List.take_of_length_le (by rw [HN.out]; exact Nat.le_refl _)] at h1
        rw [List.take_of_length_le (by rw [HN.out]; exact hk100), h1, Bool.false_or, decide_eq_false (by rw [HN.out]; omega)]
      subst hf
      have hk2 : decide ((100 : Int) < (k : Int)) = false := decide_eq_false (by omega)
      go_wp2
      go_ret
      exact ⟨rfl, rfl⟩

set_option maxRecDepth 100000 in
set_option maxHeartbeats 1000000 in
theorem has_any (w : World) (v : Value) (n : Nat) (l : Texts) (x : List UInt8) (hn : l.length = n) (hr : RdS w [] 1 v n (l.map encStr)) :
    Calls Try.prog 34 #[v, .string ⟨x.toArray⟩] w fun e w' => e = .returned (.bool (decide (x ∈ l))) ∧ w = w' := by
  obtain ⟨A, cap, rfl, _, hcap⟩ := hr.form
  have hmb : n ≤ 9223372036854775807 := by
    unfold maxLen at hcap
    omega
  obtain ⟨ans, hans⟩ : ∃ ans, decide (x ∈ l) = ans := ⟨_, rfl⟩
  rw [hans]
  have HR := Lib.hid hr
  have HN := Lib.hid hn
  have HANS := Lib.hid hans
  clear hr hn hans
  go_enter Try.func34, Try.ntmps34
  go_wp2
  go_loop [5] (fun i => ∃ k : Nat, k ≤ n ∧ i = .int .i64 k ∧ Hid (x ∉ l.take k)) (fun i => n - (intOf i).toNat)
  case atStart => exact ⟨0, Nat.zero_le _, rfl, Lib.hid (by simp)⟩
  case round =>
    obtain ⟨k, hk, rfl, HU⟩ := hrel
    by_cases hlt : k < n
    · have hke : k < l.length := by rw [HN.out]; exact hlt
      obtain ⟨b, off, cap2, hva, hbl, _, d0⟩ := HR.out.str k hke
      injection hva with hva1 _ hva3
      subst hva1
      subst hva3
      have hsucc : x ∈ l.take (k + 1) ↔ x = l[k] := by
        rw [List.take_succ_eq_append_getElem hke, List.mem_append, List.mem_singleton]
        exact ⟨fun h => h.resolve_left HU.out, .inr⟩
      have hmem := List.getElem_mem hke
      generalize l[k] = s at d0 hsucc hmem
      by_cases hs : s = x
      · have ht : ans = true := by rw [← HANS.out, decide_eq_true (hs ▸ hmem)]
        subst ht
        have hb : (s == x) = true := by rw [beq_iff_eq]; exact hs
        clear hsucc hmem hs HANS
        go_wp2
        go_ret
        exact ⟨rfl, rfl⟩
      · have hb : (s == x) = false := by rw [beq_eq_false_iff_ne]; exact hs
        have HU2 := Lib.hid (fun h => hs (hsucc.1 h).symm : x ∉ l.take (k + 1))
        clear hsucc hmem hs
        go_wp2
        go_round
        case rel => exact ⟨k + 1, by omega, by go_num, HU2⟩
        case measure => simp [intOf]; omega
    · have hkn : k = n := by omega
      subst hkn
      have hf : ans = false := by
        rw [← HANS.out, decide_eq_false]
        have h1 := HU.out
        rw [List.take_of_length_le (by rw [HN.out]; exact Nat.le_refl _)] at h1
        exact h1
      subst hf
      go_wp2
      go_ret
      exact ⟨rfl, rfl⟩

set_option maxRecDepth 100000 in
set_option maxHeartbeats 1000000 in
/-- Two lists that are one. -/
theorem same_yes (w : World) (v u : Value) (n : Nat) (l : Texts) (hn : l.length = n) (hr : RdS w [] 1 v n (l.map encStr)) (hu : RdS w [] 1 u n (l.map encStr)) :
    Calls Try.prog 35 #[v, u] w fun e w' => e = .returned (.bool true) ∧ Below w.heap.size w w' := by
  obtain ⟨A, cap, rfl, _, hcap⟩ := hr.form
  obtain ⟨B, capB, rfl, _, _⟩ := hu.form
  have hmb : n ≤ 9223372036854775807 := by
    unfold maxLen at hcap
    omega
  have HR := Lib.hid hr
  have HQ := Lib.hid hu
  have HN := Lib.hid hn
  clear hr hn hu
  go_enter Try.func35, Try.ntmps35
  go_wp2
  go_loopw [5] (fun i wr => ∃ k q : Nat, k ≤ n ∧ i = .int .i64 k ∧ Hid (wr = w.drewN q)) (fun i _ => n - (intOf i).toNat)
  case atStart => exact ⟨0, 0, Nat.zero_le _, rfl, Lib.hid rfl⟩
  case round =>
    obtain ⟨k, q, hk, rfl, HU⟩ := hrel
    by_cases hlt : k < n
    · have hke : k < l.length := by rw [HN.out]; exact hlt
      obtain ⟨b, off, cap2, hva, hbl, _, e0⟩ := HR.out.str k hke
      injection hva with hva1 _ hva3
      subst hva1
      subst hva3
      obtain ⟨b2, off2, cap3, hva, hbl2, _, e1⟩ := HQ.out.str k hke
      injection hva with hva1 _ hva3
      subst hva1
      subst hva3
      have d0 : wr.cell? ⟨b, off + k, none⟩ = some (encStr l[k]) := by rw [HU.out]; exact e0
      have d1 : wr.cell? ⟨b2, off2 + k, none⟩ = some (encStr l[k]) := by rw [HU.out]; exact e1
      generalize l[k] = s at d0 d1
      clear e0 e1
      go_wp2_with fail
      go_quiet (fail)
      go_wp2_with fail
      have HU2 : Hid (wr.drewN nq = w.drewN (q + nq)) := Lib.hid (by rw [HU.out, World.drewN_drewN])
      refine ⟨?_, by simp [intOf]; omega⟩
      first | exact ⟨k + 1, _, by omega, by go_num, HU2⟩ | ((repeat apply Exists.intro); exact ⟨⟨k + 1, _, by omega, by go_num, HU2⟩, rfl⟩)
    · have hkn : k = n := by omega
      subst hkn
      go_wp2
      go_ret
      exact ⟨rfl, by rw [HU.out]; exact below_drewN' (Below.refl _ _) q⟩

end Go.Proofs.Ytkgpflobbmagaaa
