/-
  What the program's texts of code points, and the names of mailboxes, are in plain words.
  The walks of the program's code points: how many bytes a first byte tells of, a code point's bytes.
  The walks of the program's code points, further: the one at a place, whether all are; and of a mailbox's name.
  The walk of what is wrong with a mailbox's name.
  The walk of the store's Make: what it hands back, and the account behind it, are makeP's.
-/
import Derived.Test.YtmbibhphpjmboaaGreatDoorGB
import Derived.Test.YtmbibhphpjmboaaGreatDoorGA
import Derived.Test.YtmbibhphpjmboaaGreatDoorGD
import Derived.Test.YtmbibhphpjmboaaGreatDoorGF
import Derived.Test.YtmbibhphpjmboaaGreatDoorProg
import Derived.Laws.BitsLemmas
import Derived.Deep.QuietTactic
import Derived.BigQuiet
import Derived.Deep.RegionLaw
import Derived.Deep.DrawnRows
namespace Go.Proofs.YtmbibhphpjmboaaGreatDoor

/-- A first byte: how many bytes it tells of, and its bits. -/
def sizeU (c : Nat) : Nat × Nat :=
  if c < 128 then (1, c) else if 192 ≤ c ∧ c < 224 then (2, c % 32) else if 224 ≤ c ∧ c < 240 then (3, c % 16) else if 240 ≤ c ∧ c < 248 then (4, c % 8) else (0, 0)
/-- A code point's bytes. -/
def putU (r : Nat) : List UInt8 :=
  if 1114111 < r ∨ (55296 ≤ r ∧ r ≤ 57343) then []
  else if r < 128 then [UInt8.ofNat r]
  else if r < 2048 then [UInt8.ofNat (192 + r / 64), UInt8.ofNat (128 + r % 64)]
  else if r < 65536 then [UInt8.ofNat (224 + r / 4096), UInt8.ofNat (128 + r / 64 % 64), UInt8.ofNat (128 + r % 64)]
  else [UInt8.ofNat (240 + r / 262144), UInt8.ofNat (128 + r / 4096 % 64), UInt8.ofNat (128 + r / 64 % 64), UInt8.ofNat (128 + r % 64)]
/-- Bits further on. -/
def foldU (r : Nat) (l : List UInt8) : Nat := l.foldl (fun r b => r * 64 + b.toNat % 64) r
/-- The code point at a text's head, and how many bytes it has. -/
def getU : List UInt8 → Option (Nat × Nat)
  | [] => none
  | c :: r => if (sizeU c.toNat).1 = 0 ∨ r.length + 1 < (sizeU c.toNat).1 then none
    else if putU (foldU (sizeU c.toNat).2 (r.take ((sizeU c.toNat).1 - 1))) = c :: r.take ((sizeU c.toNat).1 - 1) then some (foldU (sizeU c.toNat).2 (r.take ((sizeU c.toNat).1 - 1)), (sizeU c.toNat).1)
    else none
theorem sizeU_le (c : Nat) : (sizeU c).1 ≤ 4 := by
  unfold sizeU
  repeat' split
  all_goals simp
theorem getU_some {l : List UInt8} {v n : Nat} (h : getU l = some (v, n)) : 1 ≤ n ∧ n ≤ l.length ∧ n ≤ 4 := by
  cases l with
  | nil => simp [getU] at h
  | cons c r =>
    rw [getU] at h
    by_cases h1 : (sizeU c.toNat).1 = 0 ∨ r.length + 1 < (sizeU c.toNat).1
    · rw [if_pos h1] at h
      cases h
    · rw [if_neg h1] at h
      by_cases h2 : putU (foldU (sizeU c.toNat).2 (r.take ((sizeU c.toNat).1 - 1))) = c :: r.take ((sizeU c.toNat).1 - 1)
      · rw [if_pos h2] at h
        simp only [Option.some.injEq, Prod.mk.injEq] at h
        have := sizeU_le c.toNat
        rw [List.length_cons]
        omega
      · rw [if_neg h2] at h
        cases h
def validU : Nat → List UInt8 → Bool
  | 0, _ => true
  | f + 1, l => match l with
    | [] => true
    | _ :: _ => match getU l with
      | none => false
      | some (_, n) => validU f (l.drop n)
theorem validU_more : ∀ (f : Nat) (l : List UInt8), l.length ≤ f → validU (f + 1) l = validU f l
  | 0, l, h => by
    obtain rfl : l = [] := List.eq_nil_of_length_eq_zero (by omega)
    rfl
  | f + 1, [], _ => rfl
  | f + 1, c :: r, h => by
    rw [validU, validU]
    cases hg : getU (c :: r) with
    | none => rfl
    | some p =>
      obtain ⟨v, n⟩ := p
      have h1 := getU_some hg
      simp only
      exact validU_more f _ (by rw [List.length_drop]; omega)
/-- May the text be a mailbox's name? -/
def badC (c : Nat) : Bool := decide (c < 32) || (decide (c = 127) || (decide (c = 47) || (decide (c = 42) || decide (c = 37))))
def rightU (t : List UInt8) : Bool := !decide (t = []) && (decide (t.length ≤ 64) && (validU t.length t && t.all fun c => !badC c.toNat))

theorem getU_ascii (c : UInt8) (r : List UInt8) (h : c.toNat < 128) : getU (c :: r) = some (c.toNat, 1) := by
  have h1 : sizeU c.toNat = (1, c.toNat) := by
    unfold sizeU
    rw [if_pos h]
  have h2 : UInt8.ofNat c.toNat = c := by simp
  rw [getU]
  simp [h1, foldU, putU, h, h2]
  omega
theorem validU_ascii : ∀ (f : Nat) (l : List UInt8), (∀ c ∈ l, c.toNat < 128) → validU f l = true
  | 0, _, _ => rfl
  | f + 1, [], _ => rfl
  | f + 1, c :: r, h => by
    rw [validU, getU_ascii c r (h c (by simp))]
    exact validU_ascii f r (fun d hd => h d (List.mem_cons_of_mem _ hd))

end Go.Proofs.YtmbibhphpjmboaaGreatDoor

namespace Go.Proofs.YtmbibhphpjmboaaGreatDoor
open Go.RowKit
set_option maxRecDepth 100000 in
theorem size_any (c n b : Int) (h0 : 0 ≤ c) (h1 : c < 256) (hn : (((sizeU c.toNat).1 : Nat) : Int) = n) (hb : (((sizeU c.toNat).2 : Nat) : Int) = b) (w : World) :
    Calls Tryz.prog 206 #[.int .u8 c] w fun e w' => e = .returned (.tuple #[.int .i64 n, .int .i64 b]) ∧ w = w' := by
  have e31 := u8_and31 c h0 h1
  have e15 := u8_and15 c h0 h1
  have e7 := u8_and7 c h0 h1
  by_cases a1 : c < 128
  · have e : sizeU c.toNat = (1, c.toNat) := by unfold sizeU; rw [if_pos (by omega)]
    rw [e] at hn hb
    simp only at hn hb
    have hb2 : c = b := by omega
    subst hb2 hn
    have hw : IntKind.i64.wrap c = c := IntWalk.i64_in _ (by omega)
    clear hb e
    go_enter Tryz.func206, Tryz.ntmps206
    go_wp2
    go_ret2
    exact ⟨rfl, rfl⟩
  by_cases a2 : 192 ≤ c ∧ c < 224
  · obtain ⟨a2, a3⟩ := a2
    have e : sizeU c.toNat = (2, c.toNat % 32) := by unfold sizeU; rw [if_neg (by omega), if_pos (by omega)]
    rw [e] at hn hb
    simp only at hn hb
    have hb2 : c % 32 = b := by omega
    subst hb2 hn
    have hw : IntKind.i64.wrap (c % 32) = c % 32 := IntWalk.i64_in _ (by omega)
    clear hb e
    go_enter Tryz.func206, Tryz.ntmps206
    go_wp2
    go_ret2
    exact ⟨rfl, rfl⟩
  by_cases a3 : 224 ≤ c ∧ c < 240
  · obtain ⟨a3, a4⟩ := a3
    have e : sizeU c.toNat = (3, c.toNat % 16) := by unfold sizeU; rw [if_neg (by omega), if_neg (by omega), if_pos (by omega)]
    rw [e] at hn hb
    simp only at hn hb
    have hb2 : c % 16 = b := by omega
    subst hb2 hn
    have hw : IntKind.i64.wrap (c % 16) = c % 16 := IntWalk.i64_in _ (by omega)
    have a5 : 192 ≤ c := by omega
    have a6 : ¬ c < 224 := by omega
    clear hb e a2
    go_enter Tryz.func206, Tryz.ntmps206
    go_wp2
    go_ret2
    exact ⟨rfl, rfl⟩
  by_cases a4 : 240 ≤ c ∧ c < 248
  · obtain ⟨a4, a5⟩ := a4
    have e : sizeU c.toNat = (4, c.toNat % 8) := by unfold sizeU; rw [if_neg (by omega), if_neg (by omega), if_neg (by omega), if_pos (by omega)]
    rw [e] at hn hb
    simp only at hn hb
    have hb2 : c % 8 = b := by omega
    subst hb2 hn
    have hw : IntKind.i64.wrap (c % 8) = c % 8 := IntWalk.i64_in _ (by omega)
    have a6 : 192 ≤ c := by omega
    have a7 : ¬ c < 224 := by omega
    have a8 : 224 ≤ c := by omega
    have a9 : ¬ c < 240 := by omega
    clear hb e a2 a3
    go_enter Tryz.func206, Tryz.ntmps206
    go_wp2
    go_ret2
    exact ⟨rfl, rfl⟩
  · have e : sizeU c.toNat = (0, 0) := by unfold sizeU; rw [if_neg (by omega), if_neg (by omega), if_neg (by omega), if_neg (by omega)]
    rw [e] at hn hb
    simp only at hn hb
    subst hb hn
    clear e
    by_cases b1 : 192 ≤ c
    · have b2 : ¬ c < 224 := by omega
      have b3 : 224 ≤ c := by omega
      have b4 : ¬ c < 240 := by omega
      have b5 : 240 ≤ c := by omega
      have b6 : ¬ c < 248 := by omega
      clear a2 a3 a4
      go_enter Tryz.func206, Tryz.ntmps206
      go_wp2
      go_ret2
      exact ⟨rfl, rfl⟩
    · have b2 : ¬ 224 ≤ c := by omega
      have b3 : ¬ 240 ≤ c := by omega
      clear a2 a3 a4
      go_enter Tryz.func206, Tryz.ntmps206
      go_wp2
      go_ret2
      exact ⟨rfl, rfl⟩

theorem more_any (r : Int) (h0 : 0 ≤ r) (h1 : r < 1073741824) (w : World) :
    Calls Tryz.prog 232 #[.int .i64 r] w fun e w' => e = .returned (.int .u8 (128 + r % 64)) ∧ w = w' := by
  have e1 : bits .and .i64 r 63 = r % 64 := bits_mask .i64 62 (by decide) (fun n h0 h1 => IntWalk.i64_in _ (by omega)) 6 (by decide) r h0 (by omega)
  have e2 : bits .or .i64 128 (r % 64) = 128 + r % 64 := bits_join .i64 62 (by decide) (fun n h0 h1 => IntWalk.i64_in _ (by omega)) 6 128 (r % 64) (by omega) (by omega) (by omega) (by omega) (by omega) (by omega)
  have e3 : IntKind.u8.wrap (128 + r % 64) = 128 + r % 64 := by rw [IntKind.wrap_u8]; omega
  go_enter Tryz.func232, Tryz.ntmps232
  go_wp2
  go_ret
  exact ⟨rfl, rfl⟩

theorem frozen_row {w : World} {g i : Nat} {t : TypeId} {cs : Array Value} (h : w.heap[g]? = some (.cells cs t (0, 0))) : w.frozen? ⟨g, i, none⟩ = false := by
  unfold World.frozen?
  simp only [h]
  simp
theorem conv1 (a : Int) (ha : 0 ≤ a ∧ a < 256) (W : World) : Sem.run Tryz.prog (convert 22 9 (.slice (some ⟨W.heap.size, 0, none⟩) 1 1)) (W.alloc (.cells #[.int .u8 a] 5)) = .ok (.string ⟨[UInt8.ofNat a.toNat].toArray⟩) (W.alloc (.cells #[.int .u8 a] 5)) := by
  refine run_string_row Tryz.underlying22 Tryz.underlying5 (l := [UInt8.ofNat a.toNat]) (fun j hj => ?_) 1 rfl 9 Tryz.underlying9
  have hB : (W.alloc (.cells #[.int .u8 a] 5)).heap[W.heap.size]? = some (.cells #[.int .u8 a] 5 (0, 0)) := heap_alloc_new W _
  refine ⟨?_, frozen_row hB⟩
  rw [cell_of_row _ _ _ _ _ (0, 0) hB]
  match j, hj with
  | 0, _ => simp; omega
theorem conv2 (a b : Int) (ha : 0 ≤ a ∧ a < 256) (hb : 0 ≤ b ∧ b < 256) (W : World) : Sem.run Tryz.prog (convert 22 9 (.slice (some ⟨W.heap.size, 0, none⟩) 2 2)) (W.alloc (.cells #[.int .u8 a, .int .u8 b] 5)) = .ok (.string ⟨[UInt8.ofNat a.toNat, UInt8.ofNat b.toNat].toArray⟩) (W.alloc (.cells #[.int .u8 a, .int .u8 b] 5)) := by
  refine run_string_row Tryz.underlying22 Tryz.underlying5 (l := [UInt8.ofNat a.toNat, UInt8.ofNat b.toNat]) (fun j hj => ?_) 2 rfl 9 Tryz.underlying9
  have hB : (W.alloc (.cells #[.int .u8 a, .int .u8 b] 5)).heap[W.heap.size]? = some (.cells #[.int .u8 a, .int .u8 b] 5 (0, 0)) := heap_alloc_new W _
  refine ⟨?_, frozen_row hB⟩
  rw [cell_of_row _ _ _ _ _ (0, 0) hB]
  match j, hj with
  | 0, _ => simp; omega
  | 1, _ => simp; omega
theorem conv3 (a b c : Int) (ha : 0 ≤ a ∧ a < 256) (hb : 0 ≤ b ∧ b < 256) (hc : 0 ≤ c ∧ c < 256) (W : World) : Sem.run Tryz.prog (convert 22 9 (.slice (some ⟨W.heap.size, 0, none⟩) 3 3)) (W.alloc (.cells #[.int .u8 a, .int .u8 b, .int .u8 c] 5)) = .ok (.string ⟨[UInt8.ofNat a.toNat, UInt8.ofNat b.toNat, UInt8.ofNat c.toNat].toArray⟩) (W.alloc (.cells #[.int .u8 a, .int .u8 b, .int .u8 c] 5)) := by
  refine run_string_row Tryz.underlying22 Tryz.underlying5 (l := [UInt8.ofNat a.toNat, UInt8.ofNat b.toNat, UInt8.ofNat c.toNat]) (fun j hj => ?_) 3 rfl 9 Tryz.underlying9
  have hB : (W.alloc (.cells #[.int .u8 a, .int .u8 b, .int .u8 c] 5)).heap[W.heap.size]? = some (.cells #[.int .u8 a, .int .u8 b, .int .u8 c] 5 (0, 0)) := heap_alloc_new W _
  refine ⟨?_, frozen_row hB⟩
  rw [cell_of_row _ _ _ _ _ (0, 0) hB]
  match j, hj with
  | 0, _ => simp; omega
  | 1, _ => simp; omega
  | 2, _ => simp; omega
theorem conv4 (a b c d : Int) (ha : 0 ≤ a ∧ a < 256) (hb : 0 ≤ b ∧ b < 256) (hc : 0 ≤ c ∧ c < 256) (hd : 0 ≤ d ∧ d < 256) (W : World) : Sem.run Tryz.prog (convert 22 9 (.slice (some ⟨W.heap.size, 0, none⟩) 4 4)) (W.alloc (.cells #[.int .u8 a, .int .u8 b, .int .u8 c, .int .u8 d] 5)) = .ok (.string ⟨[UInt8.ofNat a.toNat, UInt8.ofNat b.toNat, UInt8.ofNat c.toNat, UInt8.ofNat d.toNat].toArray⟩) (W.alloc (.cells #[.int .u8 a, .int .u8 b, .int .u8 c, .int .u8 d] 5)) := by
  refine run_string_row Tryz.underlying22 Tryz.underlying5 (l := [UInt8.ofNat a.toNat, UInt8.ofNat b.toNat, UInt8.ofNat c.toNat, UInt8.ofNat d.toNat]) (fun j hj => ?_) 4 rfl 9 Tryz.underlying9
  have hB : (W.alloc (.cells #[.int .u8 a, .int .u8 b, .int .u8 c, .int .u8 d] 5)).heap[W.heap.size]? = some (.cells #[.int .u8 a, .int .u8 b, .int .u8 c, .int .u8 d] 5 (0, 0)) := heap_alloc_new W _
  refine ⟨?_, frozen_row hB⟩
  rw [cell_of_row _ _ _ _ _ (0, 0) hB]
  match j, hj with
  | 0, _ => simp; omega
  | 1, _ => simp; omega
  | 2, _ => simp; omega
  | 3, _ => simp; omega

set_option maxRecDepth 100000 in
theorem put_any (r : Int) (h0 : 0 ≤ r) (h1 : r < 1073741824) (p : List UInt8) (hp : putU r.toNat = p) (w : World) :
    Calls Tryz.prog 207 #[.int .i64 r] w fun e w' => e = .returned (.string ⟨p.toArray⟩) ∧ Below w.heap.size w w' := by
  by_cases a1 : 1114111 < r
  · have e : p = [] := by rw [← hp]; unfold putU; rw [if_pos (by omega)]
    subst e
    clear hp
    go_enter Tryz.func207, Tryz.ntmps207
    go_wp2
    go_ret
    exact ⟨rfl, Below.refl _ _⟩
  by_cases a2 : 55296 ≤ r ∧ r ≤ 57343
  · have e : p = [] := by rw [← hp]; unfold putU; rw [if_pos (by omega)]
    obtain ⟨a2, a3⟩ := a2
    subst e
    clear hp
    go_enter Tryz.func207, Tryz.ntmps207
    go_wp2
    go_ret
    exact ⟨rfl, Below.refl _ _⟩
  by_cases a3 : r < 128
  · have e : p = [UInt8.ofNat r.toNat] := by rw [← hp]; unfold putU; rw [if_neg (by omega), if_pos (by omega)]
    subst e
    have hw : IntKind.u8.wrap r = r := by rw [IntKind.wrap_u8]; omega
    have hc := conv1 r (by omega) w
    have b1 : ¬ 55296 ≤ r := by omega
    clear hp a2
    go_enter Tryz.func207, Tryz.ntmps207
    go_wp2
    go_ret
    exact ⟨rfl, (Below.refl _ w).alloc (Nat.le_refl _) _⟩
  have hm := more_any
  by_cases a4 : r < 2048
  · have e : p = [UInt8.ofNat (192 + r / 64).toNat, UInt8.ofNat (128 + r % 64).toNat] := by
      rw [← hp]; unfold putU; rw [if_neg (by omega), if_neg (by omega), if_pos (by omega)]
      rw [show (192 + r / 64).toNat = 192 + r.toNat / 64 by omega, show (128 + r % 64).toNat = 128 + r.toNat % 64 by omega]
    have e1 : bits .or .i64 192 (r / 64) = 192 + r / 64 := bits_join .i64 62 (by decide) (fun n h0 h1 => IntWalk.i64_in _ (by omega)) 6 192 (r / 64) (by omega) (by omega) (by omega) (by omega) (by omega) (by omega)
    have e2 : IntKind.u8.wrap (192 + r / 64) = 192 + r / 64 := by rw [IntKind.wrap_u8]; omega
    have hc := conv2 (192 + r / 64) (128 + r % 64) (by omega) (by omega) w
    rw [← e] at hc
    have hm1 := hm r h0 h1
    have b1 : ¬ 55296 ≤ r := by omega
    clear hp a2 hm e
    go_enter Tryz.func207, Tryz.ntmps207
    go_wp2_with (first
      | (go_at_call 232; refine (hm1 _).mono ?_; rintro e w1 ⟨rfl, rfl⟩)
      | fail)
    go_ret
    exact ⟨rfl, (Below.refl _ w).alloc (Nat.le_refl _) _⟩
  by_cases a5 : r < 65536
  · have e : p = [UInt8.ofNat (224 + r / 4096).toNat, UInt8.ofNat (128 + r / 64 % 64).toNat, UInt8.ofNat (128 + r % 64).toNat] := by
      rw [← hp]; unfold putU; rw [if_neg (by omega), if_neg (by omega), if_neg (by omega), if_pos (by omega)]
      rw [show (224 + r / 4096).toNat = 224 + r.toNat / 4096 by omega, show (128 + r % 64).toNat = 128 + r.toNat % 64 by omega, show (128 + r / 64 % 64).toNat = 128 + r.toNat / 64 % 64 by omega]
    have e1 : bits .or .i64 224 (r / 4096) = 224 + r / 4096 := bits_join .i64 62 (by decide) (fun n h0 h1 => IntWalk.i64_in _ (by omega)) 5 224 (r / 4096) (by omega) (by omega) (by omega) (by omega) (by omega) (by omega)
    have e2 : IntKind.u8.wrap (224 + r / 4096) = 224 + r / 4096 := by rw [IntKind.wrap_u8]; omega
    have hc := conv3 (224 + r / 4096) (128 + r / 64 % 64) (128 + r % 64) (by omega) (by omega) (by omega) w
    rw [← e] at hc
    have hm1 := hm r h0 h1
    have hm2 := hm (r / 64) (by omega) (by omega)
    have b1 : 55296 ≤ r → ¬ r ≤ 57343 := fun h1 h2 => a2 ⟨h1, h2⟩
    clear hp a2 hm e
    go_enter Tryz.func207, Tryz.ntmps207
    by_cases b2 : 55296 ≤ r
    · have b3 := b1 b2
      clear b1
      go_wp2_with (first
        | (go_at_call 232; (with_reducible refine (hm2 _).mono ?_); rintro e w1 ⟨rfl, rfl⟩; clear hm2)
        | (go_at_call 232; refine (hm1 _).mono ?_; rintro e w1 ⟨rfl, rfl⟩)
        | fail)
      go_ret
      exact ⟨rfl, (Below.refl _ w).alloc (Nat.le_refl _) _⟩
    · clear b1
      go_wp2_with (first
        | (go_at_call 232; (with_reducible refine (hm2 _).mono ?_); rintro e w1 ⟨rfl, rfl⟩; clear hm2)
        | (go_at_call 232; refine (hm1 _).mono ?_; rintro e w1 ⟨rfl, rfl⟩)
        | fail)
      go_ret
      exact ⟨rfl, (Below.refl _ w).alloc (Nat.le_refl _) _⟩
  · have e : p = [UInt8.ofNat (240 + r / 262144).toNat, UInt8.ofNat (128 + r / 4096 % 64).toNat, UInt8.ofNat (128 + r / 64 % 64).toNat, UInt8.ofNat (128 + r % 64).toNat] := by
      rw [← hp]; unfold putU; rw [if_neg (by omega), if_neg (by omega), if_neg (by omega), if_neg (by omega)]
      rw [show (240 + r / 262144).toNat = 240 + r.toNat / 262144 by omega, show (128 + r % 64).toNat = 128 + r.toNat % 64 by omega, show (128 + r / 64 % 64).toNat = 128 + r.toNat / 64 % 64 by omega, show (128 + r / 4096 % 64).toNat = 128 + r.toNat / 4096 % 64 by omega]
    have e1 : bits .or .i64 240 (r / 262144) = 240 + r / 262144 := bits_join .i64 62 (by decide) (fun n h0 h1 => IntWalk.i64_in _ (by omega)) 4 240 (r / 262144) (by omega) (by omega) (by omega) (by omega) (by omega) (by omega)
    have e2 : IntKind.u8.wrap (240 + r / 262144) = 240 + r / 262144 := by rw [IntKind.wrap_u8]; omega
    have hc := conv4 (240 + r / 262144) (128 + r / 4096 % 64) (128 + r / 64 % 64) (128 + r % 64) (by omega) (by omega) (by omega) (by omega) w
    rw [← e] at hc
    have hm1 := hm r h0 h1
    have hm2 := hm (r / 64) (by omega) (by omega)
    have hm3 := hm (r / 4096) (by omega) (by omega)
    have b2 : 55296 ≤ r := by omega
    have b3 : ¬ r ≤ 57343 := by omega
    clear hp a2 hm e
    go_enter Tryz.func207, Tryz.ntmps207
    go_wp2_with (first
      | (go_at_call 232; (with_reducible refine (hm3 _).mono ?_); rintro e w1 ⟨rfl, rfl⟩; clear hm3)
      | (go_at_call 232; (with_reducible refine (hm2 _).mono ?_); rintro e w1 ⟨rfl, rfl⟩; clear hm2)
      | (go_at_call 232; refine (hm1 _).mono ?_; rintro e w1 ⟨rfl, rfl⟩)
      | fail)
    go_ret
    exact ⟨rfl, (Below.refl _ w).alloc (Nat.le_refl _) _⟩

end Go.Proofs.YtmbibhphpjmboaaGreatDoor

namespace Go.Proofs.YtmbibhphpjmboaaGreatDoor
open Go.RowKit
theorem foldU_snoc (b : Nat) (l : List UInt8) (c : UInt8) : foldU b (l ++ [c]) = foldU b l * 64 + c.toNat % 64 := by simp [foldU]
theorem foldU_lt (b : Nat) : ∀ l : List UInt8, foldU b l < (b + 1) * 64 ^ l.length := by
  intro l
  induction l generalizing b with
  | nil => simp [foldU]
  | cons c r ih =>
    have h := ih (b * 64 + c.toNat % 64)
    have h2 : foldU b (c :: r) = foldU (b * 64 + c.toNat % 64) r := rfl
    rw [h2, List.length_cons, Nat.pow_succ]
    have h3 : b * 64 + c.toNat % 64 + 1 ≤ (b + 1) * 64 := by omega
    calc foldU (b * 64 + c.toNat % 64) r < (b * 64 + c.toNat % 64 + 1) * 64 ^ r.length := h
      _ ≤ ((b + 1) * 64) * 64 ^ r.length := Nat.mul_le_mul_right _ h3
      _ = (b + 1) * (64 ^ r.length * 64) := by rw [Nat.mul_assoc, Nat.mul_comm 64]
theorem sizeU_bits (c : Nat) : (sizeU c).2 < 128 := by
  unfold sizeU
  repeat' split
  all_goals (simp only; omega)
theorem foldU_small (c : Nat) (l : List UInt8) (hl : l.length ≤ 3) : foldU (sizeU c).2 l < 33554432 := by
  have h1 := foldU_lt (sizeU c).2 l
  have h2 := sizeU_bits c
  have h3 : 64 ^ l.length ≤ 64 ^ 3 := Nat.pow_le_pow_right (by omega) hl
  calc foldU (sizeU c).2 l < ((sizeU c).2 + 1) * 64 ^ l.length := h1
    _ ≤ 128 * 64 ^ 3 := Nat.mul_le_mul (by omega) h3

theorem bdrop {B : Nat} {w w' : World} (h : Below B w.drew w') : Below B w w' := ⟨h.os, h.tape, h.output, h.size, h.block⟩
def getR (s : ByteArray) (k : Nat) : Int × Int := match getU (s.data.toList.drop k) with
  | none => (-1, k)
  | some (a, n) => (a, ((k + n : Nat) : Int))
theorem drop_at (s : ByteArray) (k : Nat) (hk : k < s.size) : s.data.toList.drop k = s[k] :: s.data.toList.drop (k + 1) := by
  rw [List.drop_eq_getElem_cons (by simpa using hk)]
  rfl
theorem take_more (s : ByteArray) (k j : Nat) (hk : k + j < s.size) : (s.data.toList.drop k).take (j + 1) = (s.data.toList.drop k).take j ++ [s[k + j]] := by
  rw [List.take_succ_eq_append_getElem (by simp; omega)]
  simp
  rfl
theorem cut_at (s : ByteArray) (k n : Nat) : s.extract k (k + n) = ⟨((s.data.toList.drop k).take n).toArray⟩ := by
  apply of_dataL
  rw [ByteArray.data_extract, Array.toList_extract]
  simp [List.extract_eq_take_drop]

set_option maxRecDepth 100000 in
set_option maxHeartbeats 1000000 in
theorem get_any (s : ByteArray) (k : Nat) (hk : k < s.size) (hs : s.size ≤ 4294967296) (v x : Int) (hv : getR s k = (v, x)) (w : World) :
    Calls Tryz.prog 166 #[.string s, .int .i64 k] w fun e w' => e = .returned (.tuple #[.int .i64 v, .int .i64 x]) ∧ Below w.heap.size w w' := by
  have hc := s[k].toNat_lt
  obtain ⟨n, hn⟩ : ∃ n, (sizeU s[k].toNat).1 = n := ⟨_, rfl⟩
  obtain ⟨b, hb⟩ : ∃ b, (sizeU s[k].toNat).2 = b := ⟨_, rfl⟩
  have hsz := size_any (s[k].toNat : Int) n b (by omega) (by omega) (by simp [hn]) (by simp [hb])
  have hn4 : n ≤ 4 := by rw [← hn]; exact sizeU_le _
  have hsub : IntKind.i64.wrap ((s.size : Int) - k) = (s.size : Int) - k := IntWalk.i64_in _ (by omega)
  have hlen : (s.data.toList.drop (k + 1)).length + 1 = s.size - k := by simp; omega
  by_cases p0 : n = 0
  · have e : getR s k = (-1, (k : Int)) := by
      unfold getR
      rw [drop_at s k hk, getU, if_pos (by omega)]
    rw [e] at hv
    injection hv with h1 h2
    subst h1 h2
    subst p0
    clear e hlen
    go_enter Tryz.func166, Tryz.ntmps166
    go_wp2_with (first
      | (go_at_call 206; refine (hsz _).mono ?_; rintro e w1 ⟨rfl, rfl⟩)
      | fail)
    go_ret2
    exact ⟨rfl, Below.refl _ _⟩
  have p0i : ((n : Int) == 0) = false := by simpa using p0
  by_cases p1 : s.size - k < n
  · have e : getR s k = (-1, (k : Int)) := by
      unfold getR
      rw [drop_at s k hk, getU, if_pos (by omega)]
    rw [e] at hv
    injection hv with h1 h2
    subst h1 h2
    have p1i : (s.size : Int) - k < n := by omega
    clear e hlen
    go_enter Tryz.func166, Tryz.ntmps166
    go_wp2_with (first
      | (go_at_call 206; refine (hsz _).mono ?_; rintro e w1 ⟨rfl, rfl⟩)
      | fail)
    go_ret2
    exact ⟨rfl, Below.refl _ _⟩
  · have hg : getU (s.data.toList.drop k) = if putU (foldU b ((s.data.toList.drop (k + 1)).take (n - 1))) = (s.data.toList.drop k).take n then some (foldU b ((s.data.toList.drop (k + 1)).take (n - 1)), n) else none := by
      obtain ⟨n', rfl⟩ : ∃ n', n = n' + 1 := ⟨n - 1, by omega⟩
      rw [drop_at s k hk, getU, if_neg (by omega), hn, hb, List.take_succ_cons, Nat.add_sub_cancel]
    have hfs : ∀ j, j ≤ n → foldU b ((s.data.toList.drop (k + 1)).take (j - 1)) < 33554432 := fun j hj => by
      rw [← hb]
      exact foldU_small _ _ (by rw [List.length_take]; omega)
    have p1i : ¬ (s.size : Int) - k < n := by omega
    have HG := Lib.hid hg
    have HV := Lib.hid hv
    have HF := Lib.hid hfs
    clear hg hv hfs hlen hn hb
    go_enter Tryz.func166, Tryz.ntmps166
    go_wp2_with (first
      | (go_at_call 206; refine (hsz _).mono ?_; rintro e w1 ⟨rfl, rfl⟩)
      | fail)
    go_loop [4, 7] (fun r i => ∃ j f : Nat, 1 ≤ j ∧ j ≤ n ∧ i = .int .i64 j ∧ r = .int .i64 f ∧ f < 33554432 ∧ Hid (f = foldU b ((s.data.toList.drop (k + 1)).take (j - 1)))) (fun _ i => n - (intOf i).toNat)
    case atStart =>
      have hb0 := HF.out 1 (by omega)
      exact ⟨1, b, Nat.le_refl _, by omega, rfl, rfl, hb0, Lib.hid rfl⟩
    case round =>
      obtain ⟨j, f, hj1, hj2, rfl, rfl, hf, HJ⟩ := hrel
      by_cases hlt : j < n
      · have hkj : k + j < s.size := by omega
        have hc2 := s[k + j].toNat_lt
        have e1 := u8_and63 (s[k + j].toNat : Int) (by omega) (by omega)
        have e2 : IntKind.i64.wrap ((s[k + j].toNat : Int) % 64) = (s[k + j].toNat : Int) % 64 := IntWalk.i64_in _ (by omega)
        have e3 : IntKind.i64.wrap ((f : Int) * 64) = (f : Int) * 64 := IntWalk.i64_in _ (by omega)
        have e4 : bits .or .i64 ((f : Int) * 64) ((s[k + j].toNat : Int) % 64) = (f : Int) * 64 + (s[k + j].toNat : Int) % 64 := bits_join .i64 62 (by decide) (fun n h0 h1 => IntWalk.i64_in _ (by omega)) 6 _ _ (by omega) (by omega) (by omega) (by omega) (by omega) (by omega)
        have e5 : IntKind.i64.wrap ((k : Int) + j) = (k : Int) + j := IntWalk.i64_in _ (by omega)
        have hfn : f * 64 + s[k + j].toNat % 64 = foldU b ((s.data.toList.drop (k + 1)).take (j + 1 - 1)) := by
          obtain ⟨j', rfl⟩ : ∃ j', j = j' + 1 := ⟨j - 1, by omega⟩
          rw [Nat.add_sub_cancel, take_more s (k + 1) j' (by omega), foldU_snoc, HJ.out, Nat.add_sub_cancel]
          simp only [show k + 1 + j' = k + (j' + 1) by omega]
        have hfl := HF.out (j + 1) (by omega)
        rw [← hfn] at hfl
        have HN := Lib.hid hfn
        clear hfn
        go_wp2_with fail
        refine ⟨⟨j + 1, f * 64 + s[k + j].toNat % 64, by omega, by omega, by go_num, by go_num, hfl, HN⟩, by simp [intOf]; omega⟩
      · have hjn : j = n := by omega
        subst hjn
        obtain ⟨p, hp⟩ : ∃ p, putU f = p := ⟨_, rfl⟩
        obtain ⟨t, ht⟩ : ∃ t, (s.data.toList.drop k).take j = t := ⟨_, rfl⟩
        have hput := fun W => put_any (f : Int) (by omega) (by omega) p (by simpa using hp) W
        have hcut : s.extract k (k + j) = ⟨t.toArray⟩ := by rw [cut_at, ht]
        have e5 : IntKind.i64.wrap ((k : Int) + j) = (k : Int) + j := IntWalk.i64_in _ (by omega)
        have hgk := HG.out
        rw [← HJ.out, hp, ht] at hgk
        have hgv := HV.out
        unfold getR at hgv
        rw [hgk] at hgv
        by_cases hpt : p = t
        · rw [if_pos hpt] at hgv
          subst hpt
          simp only [Prod.mk.injEq] at hgv
          obtain ⟨h1, h2⟩ := hgv
          subst h1 h2
          clear hp ht hgk HG HV HF HJ
          go_wp2_with fail
          go_region_with (first
            | (go_at_call 207; refine (hput _).mono ?_; rintro e w4 ⟨rfl, hb4⟩; have HB4 := Lib.hid (bdrop hb4); clear hb4)
            | fail)
          all_goals
            go_wp2_with fail
            go_ret2
            exact ⟨rfl, HB4.out⟩
        · rw [if_neg hpt] at hgv
          simp only [Prod.mk.injEq] at hgv
          obtain ⟨h1, h2⟩ := hgv
          subst h1 h2
          have hne : (p == t) = false := by simpa using hpt
          clear hp ht hgk HG HV HF HJ
          go_wp2_with fail
          go_region_with (first
            | (go_at_call 207; refine (hput _).mono ?_; rintro e w4 ⟨rfl, hb4⟩; have HB4 := Lib.hid (bdrop hb4); clear hb4)
            | fail)
          all_goals
            go_wp2_with fail
            go_ret2
            exact ⟨rfl, HB4.out⟩

theorem validU_ge : ∀ (d : Nat) (l : List UInt8), validU (l.length + d) l = validU l.length l
  | 0, l => rfl
  | d + 1, l => by
    rw [← Nat.add_assoc, validU_more _ _ (by omega)]
    exact validU_ge d l
theorem validU_bad {c : UInt8} {r : List UInt8} (h : getU (c :: r) = none) : validU (c :: r).length (c :: r) = false := by
  rw [List.length_cons, validU, h]
theorem validU_on {c : UInt8} {r : List UInt8} {v n : Nat} (h : getU (c :: r) = some (v, n)) : validU (c :: r).length (c :: r) = validU ((c :: r).drop n).length ((c :: r).drop n) := by
  have h1 := getU_some h
  rw [List.length_cons, validU, h]
  simp only
  have h2 : r.length = ((c :: r).drop n).length + (n - 1) := by
    rw [List.length_drop, List.length_cons]
    rw [List.length_cons] at h1
    omega
  rw [h2]
  exact validU_ge _ _
def validV (s : ByteArray) (k : Nat) : Bool := validU (s.data.toList.drop k).length (s.data.toList.drop k)
theorem validV_cases (s : ByteArray) (k : Nat) (hk : k < s.size) : (getR s k = (-1, (k : Int)) ∧ validV s k = false) ∨ ∃ v n : Nat, getR s k = ((v : Int), ((k + n : Nat) : Int)) ∧ 1 ≤ n ∧ k + n ≤ s.size ∧ validV s k = validV s (k + n) := by
  unfold getR validV
  rw [drop_at s k hk]
  cases hg : getU (s[k] :: s.data.toList.drop (k + 1)) with
  | none => exact .inl ⟨rfl, validU_bad hg⟩
  | some p =>
    obtain ⟨v, n⟩ := p
    have h1 := getU_some hg
    have h2 := validU_on hg
    refine .inr ⟨v, n, rfl, h1.1, ?_, ?_⟩
    · have h3 := h1.2.1
      rw [← drop_at s k hk, List.length_drop, lenB] at h3
      omega
    · rw [h2, ← drop_at s k hk, List.drop_drop]

set_option maxRecDepth 100000 in
theorem valid_any (s : ByteArray) (hs : s.size ≤ 4294967296) (w : World) :
    Calls Tryz.prog 126 #[.string s] w fun e w' => e = .returned (.bool (validU s.size s.data.toList)) ∧ Below w.heap.size w w' := by
  obtain ⟨b, hb⟩ : ∃ b, validU s.size s.data.toList = b := ⟨_, rfl⟩
  rw [hb]
  have h0 : validV s 0 = b := by
    unfold validV
    rw [List.drop_zero, lenB]
    exact hb
  have HB0 := Lib.hid h0
  clear hb h0
  go_enter Tryz.func126, Tryz.ntmps126
  go_wp2_with fail
  go_loopw [3] (fun i wr => ∃ k : Nat, k ≤ s.size ∧ i = .int .i64 k ∧ Hid (Below w.heap.size w wr) ∧ Hid (validV s k = b)) (fun i _ => s.size - (intOf i).toNat)
  case atStart => exact ⟨0, Nat.zero_le _, rfl, Lib.hid (Below.refl _ _), HB0⟩
  case round =>
    obtain ⟨k, hk, rfl, HL, HV⟩ := hrel
    by_cases hlt : k < s.size
    · rcases validV_cases s k hlt with ⟨hg, hf⟩ | ⟨v, n, hg, hn1, hn2, hf⟩
      · have hget := get_any s k hlt hs _ _ hg wr
        have HN := Lib.hid (HV.out.symm.trans hf)
        clear hg hf
        go_wp2_with (first
          | (go_at_call 166; refine hget.mono ?_; rintro e w4 ⟨rfl, hb4⟩; have HB4 := Lib.hid hb4; clear hb4)
          | fail)
        go_ret
        exact ⟨ret_bool HN.out.symm, bthen HL.out HB4.out⟩
      · have hget := get_any s k hlt hs _ _ hg wr
        have HN := Lib.hid (hf.symm.trans HV.out)
        have hv0 : ¬ (v : Int) < 0 := by omega
        clear hg hf
        go_wp2_with (first
          | (go_at_call 166; refine hget.mono ?_; rintro e w4 ⟨rfl, hb4⟩; have HB4 := Lib.hid hb4; clear hb4)
          | fail)
        have HX := Lib.hid (bthen HL.out HB4.out)
        refine ⟨?_, by simp [intOf]; omega⟩
        first | exact ⟨k + n, hn2, by go_num, HX, HN⟩ | ((repeat apply Exists.intro); exact ⟨⟨k + n, hn2, by go_num, HX, HN⟩, rfl⟩)
    · have hkn : k = s.size := by omega
      subst hkn
      have HN : Hid (b = true) := Lib.hid (by
        rw [← HV.out]
        unfold validV
        rw [List.drop_of_length_le (by rw [lenB]; exact Nat.le_refl _)]
        rfl)
      go_wp2_with fail
      go_ret
      exact ⟨ret_bool HN.out.symm, HL.out⟩

theorem right_no (s : ByteArray) (k : Nat) (h : k < s.size) (hc : badC s[k].toNat = true) : rightU s.data.toList = false := by
  unfold rightU
  have : (s.data.toList.all fun c => !badC c.toNat) = false := by
    rw [List.all_eq_false]
    exact ⟨s[k], by show s.data[k] ∈ _; simp, by simp [hc]⟩
  simp [this]
theorem right_take (s : ByteArray) (k : Nat) (h : k < s.size) (h0 : ((s.data.toList.take k).all fun c => !badC c.toNat) = true) (hc : badC s[k].toNat = false) : ((s.data.toList.take (k + 1)).all fun c => !badC c.toNat) = true := by
  rw [take_snocB s k h]
  simp only [List.all_append, h0, Bool.true_and]
  simp [hc]

set_option maxRecDepth 100000 in
set_option maxHeartbeats 1000000 in
theorem tright_any (s : ByteArray) (hs : s.size ≤ 140737488351232) (w : World) :
    Calls Tryz.prog 69 #[.string s] w fun e w' => e = .returned (.bool (rightU s.data.toList)) ∧ Below w.heap.size w w' := by
  obtain ⟨b, hb⟩ : ∃ b, rightU s.data.toList = b := ⟨_, rfl⟩
  rw [hb]
  have HB0 := Lib.hid hb
  clear hb
  by_cases h0 : s.size = 0
  · have hs0 : s = ⟨#[]⟩ := by
      apply of_dataL
      exact List.eq_nil_of_length_eq_zero (by rw [lenB]; exact h0)
    subst hs0
    have hn : b = false := by
      rw [← HB0.out]
      rfl
    subst hn
    clear HB0 h0
    go_enter Tryz.func69, Tryz.ntmps69
    go_wp2_with fail
    go_ret
    exact ⟨rfl, Below.refl _ _⟩
  have hne : (s.toList == []) = false := ne_toListB s [] (fun e => h0 (by rw [e]; rfl))
  by_cases h1 : 64 < s.size
  · have hn : b = false := by
      rw [← HB0.out]
      unfold rightU
      rw [decide_eq_false (show ¬ s.data.toList.length ≤ 64 by rw [lenB]; omega), Bool.false_and, Bool.and_false]
    subst hn
    have h1i : (64 : Int) < s.size := by omega
    go_enter Tryz.func69, Tryz.ntmps69
    go_wp2_with fail
    go_ret
    exact ⟨rfl, Below.refl _ _⟩
  have h1i : ¬ (64 : Int) < s.size := by omega
  have hval := valid_any s (by omega) w
  have HD : Hid (∀ v, validU s.size s.data.toList = v → b = (v && s.data.toList.all fun c => !badC c.toNat)) := Lib.hid (fun v hv => by
    rw [← HB0.out]
    unfold rightU
    rw [lenB, hv, decide_eq_true (show s.size ≤ 64 by omega), decide_eq_false (show ¬ s.data.toList = [] from fun e => h0 (by rw [← lenB s, e]; rfl))]
    rfl)
  generalize validU s.size s.data.toList = v at hval HD
  cases v with
  | false =>
    have hn : b = false := by rw [HD.out false rfl]; simp
    subst hn
    clear HD
    go_enter Tryz.func69, Tryz.ntmps69
    go_wp2_with (first
      | (go_at_call 126; refine hval.mono ?_; rintro e w4 ⟨rfl, hb4⟩; have HB4 := Lib.hid hb4; clear hb4)
      | fail)
    go_ret
    exact ⟨rfl, HB4.out⟩
  | true =>
    go_enter Tryz.func69, Tryz.ntmps69
    go_wp2_with (first
      | (go_at_call 126; refine hval.mono ?_; rintro e w4 ⟨rfl, hb4⟩; have HB4 := Lib.hid hb4; clear hb4)
      | fail)
    go_loop [19] (fun i => ∃ k : Nat, k ≤ s.size ∧ i = .int .i64 k ∧ Hid (((s.data.toList.take k).all fun c => !badC c.toNat) = true)) (fun i => s.size - (intOf i).toNat)
    case atStart => exact ⟨0, Nat.zero_le _, rfl, Lib.hid rfl⟩
    case round =>
      obtain ⟨k, hk, rfl, HA⟩ := hrel
      by_cases hlt : k < s.size
      · obtain ⟨c, hc⟩ : ∃ c : Int, c = (s[k].toNat : Int) := ⟨_, rfl⟩
        have HC := Lib.hid hc
        have hn : ∀ (hbad : badC s[k].toNat = true), b = false := fun hbad => HB0.out.symm.trans (right_no s k hlt hbad)
        have HN := Lib.hid hn
        clear hc hn
        by_cases a1 : (s[k].toNat : Int) < 32
        · have HF := Lib.hid (HN.out (by unfold badC; rw [decide_eq_true (by omega)]; rfl))
          clear HN HC
          go_wp2_with fail
          go_ret
          exact ⟨ret_bool HF.out.symm, HB4.out⟩
        by_cases a2 : s[k].toNat = 127
        · have HF := Lib.hid (HN.out (by unfold badC; rw [a2]; rfl))
          have a2i : (s[k].toNat : Int) = 127 := by omega
          clear HN HC
          go_wp2_with fail
          go_ret
          exact ⟨ret_bool HF.out.symm, HB4.out⟩
        by_cases a3 : s[k].toNat = 47
        · have HF := Lib.hid (HN.out (by unfold badC; rw [a3]; rfl))
          have a3i : (s[k].toNat : Int) = 47 := by omega
          clear HN HC
          go_wp2_with fail
          go_ret
          exact ⟨ret_bool HF.out.symm, HB4.out⟩
        by_cases a4 : s[k].toNat = 42
        · have HF := Lib.hid (HN.out (by unfold badC; rw [a4]; rfl))
          have a4i : (s[k].toNat : Int) = 42 := by omega
          clear HN HC
          go_wp2_with fail
          go_ret
          exact ⟨ret_bool HF.out.symm, HB4.out⟩
        by_cases a5 : s[k].toNat = 37
        · have HF := Lib.hid (HN.out (by unfold badC; rw [a5]; rfl))
          have a5i : (s[k].toNat : Int) = 37 := by omega
          clear HN HC
          go_wp2_with fail
          go_ret
          exact ⟨ret_bool HF.out.symm, HB4.out⟩
        · have hgood : badC s[k].toNat = false := by
            unfold badC
            rw [decide_eq_false (by omega), decide_eq_false a2, decide_eq_false a3, decide_eq_false a4, decide_eq_false a5]
            rfl
          have HX := Lib.hid (right_take s k hlt HA.out hgood)
          have a2i : ((s[k].toNat : Int) == 127) = false := by simpa using (show ¬ (s[k].toNat : Int) = 127 by omega)
          have a3i : ((s[k].toNat : Int) == 47) = false := by simpa using (show ¬ (s[k].toNat : Int) = 47 by omega)
          have a4i : ((s[k].toNat : Int) == 42) = false := by simpa using (show ¬ (s[k].toNat : Int) = 42 by omega)
          have a5i : ((s[k].toNat : Int) == 37) = false := by simpa using (show ¬ (s[k].toNat : Int) = 37 by omega)
          clear HN HC hgood a2 a3 a4 a5
          go_wp2_with fail
          exact ⟨⟨k + 1, hlt, by go_num, HX⟩, by simp [intOf]; omega⟩
      · have hkn : k = s.size := by omega
        subst hkn
        have HN : Hid (b = true) := Lib.hid (by
          rw [HD.out true rfl]
          have h1 := HA.out
          rw [take_allB s _ (Nat.le_refl _)] at h1
          rw [h1]
          rfl)
        go_wp2_with fail
        go_ret
        exact ⟨ret_bool HN.out.symm, HB4.out⟩

end Go.Proofs.YtmbibhphpjmboaaGreatDoor

namespace Go.Proofs.YtmbibhphpjmboaaGreatDoor
open Go.Shelf Go.RowKit
attribute [local go_sem ↓] Go.wp_at_zero Go.wp_at_succ

def namedTw (x : Acc) (nl : Text) (parent but : Int) (k : Nat) : Bool := (decide (parent = 0) && decide (lowL nl = lowL inboxT)) || (x.boxes.take k).any (fun b => decide (b.id ≠ but) && (decide (b.parent = parent) && decide (b.name = nl)))
def namedCt (x : Acc) (but : Int) (k : Nat) : Nat := ((x.boxes.take k).filter fun b => decide (b.id ≠ but)).length
theorem namedTw_succ (x : Acc) (nl : Text) (parent but : Int) (k : Nat) (hk : k < x.boxes.length) : namedTw x nl parent but (k + 1) = (namedTw x nl parent but k || (decide (x.boxes[k].id ≠ but) && (decide (x.boxes[k].parent = parent) && decide (x.boxes[k].name = nl)))) := by
  unfold namedTw
  rw [List.take_succ_eq_append_getElem hk, List.any_append, List.any_cons, List.any_nil, Bool.or_false, Bool.or_assoc]
theorem namedCt_succ (x : Acc) (but : Int) (k : Nat) (hk : k < x.boxes.length) : namedCt x but (k + 1) = namedCt x but k + (if x.boxes[k].id ≠ but then 1 else 0) := by
  unfold namedCt
  rw [List.take_succ_eq_append_getElem hk, List.filter_append, List.length_append]
  by_cases h : x.boxes[k].id = but <;> simp [h]
theorem namedP_eq (x : Acc) (nl : Text) (parent but : Int) (h : ¬ (parent ≠ 0 ∧ hasBox x.boxes parent = false)) :
    namedP x nl parent but = if namedTw x nl parent but x.boxes.length = true then 5 else if x.cfg.maxBoxes ≤ (namedCt x but x.boxes.length : Int) then 8 else 0 := by
  unfold namedP namedTw namedCt
  rw [if_neg h, List.take_of_length_le (Nat.le_refl _)]
  have he : ((parent = 0 ∧ lowL nl = lowL inboxT) ∨ x.boxes.any (fun b => decide (b.id ≠ but) && (decide (b.parent = parent) && decide (b.name = nl))) = true) ↔ ((decide (parent = 0) && decide (lowL nl = lowL inboxT)) || x.boxes.any (fun b => decide (b.id ≠ but) && (decide (b.parent = parent) && decide (b.name = nl)))) = true := by
    rw [Bool.or_eq_true_iff, Bool.and_eq_true_iff, decide_eq_true_iff, decide_eq_true_iff]
  simp only [he]

set_option maxRecDepth 100000 in
set_option maxHeartbeats 2000000 in
theorem named_any (w : World) (g : Nat) (q : Lies) (x : Acc) (h : StoreAt w g q x) (hn : x.boxes.length ≤ 1099511627776) (nl : Text) (hnl : nl.length ≤ 1099511627776) (parent but : Int) :
    Calls Tryz.prog 70 #[.pointer (some ⟨g, 0, none⟩), .string ⟨nl.toArray⟩, .int .i64 parent, .int .i64 but] w fun e w' => e = .returned (.int .i64 (namedP x nl parent but)) ∧ Below w.heap.size w w' := by
  have hbx := fun W (he : W.heap = w.heap) => box_any g q.vb [] x.boxes parent W ((cell_heap he _).trans h.cell10) ((h.boxes.heap he).reads [] (by simp)) hn
  have hbn := boxOf_neg parent x.boxes
  by_cases hA : parent ≠ 0 ∧ hasBox x.boxes parent = false
  · have hres : namedP x nl parent but = 6 := by
      unfold namedP
      rw [if_pos hA]
    rw [hres]
    rw [hA.2] at hbn
    have hp : (parent != 0) = true := by simpa using hA.1
    have hlt : boxOf parent x.boxes < 0 := by simpa using hbn
    generalize boxOf parent x.boxes = r at hbx hlt
    have hb1 := hbx w rfl
    clear hbx hres hbn hA h
    go_enter Tryz.func70, Tryz.ntmps70
    go_wp2_with (first
      | (go_at_call 74; refine hb1.mono ?_; rintro e w3 ⟨rfl, hb3⟩; have HB3 := Lib.hid hb3; clear hb3)
      | fail)
    go_ret
    exact ⟨rfl, HB3.out⟩
  have hres := namedP_eq x nl parent but hA
  obtain ⟨t0, ht0⟩ : ∃ t0, namedTw x nl parent but 0 = t0 := ⟨_, rfl⟩
  have hge : parent = 0 ∨ (¬ parent = 0 ∧ 0 ≤ boxOf parent x.boxes) := by
    by_cases hp : parent = 0
    · exact .inl hp
    · have h2 : hasBox x.boxes parent = true := by
        cases hh : hasBox x.boxes parent with
        | true => rfl
        | false => exact absurd ⟨hp, hh⟩ hA
      rw [h2] at hbn
      have h3 : ¬ boxOf parent x.boxes < 0 := by simpa using hbn
      exact .inr ⟨hp, by omega⟩
  have hf := fun W => fold_any ⟨nl.toArray⟩ W (by show nl.toArray.size ≤ _; simp; omega)
  have hf2 := fun W => fold_any ⟨#[73, 78, 66, 79, 88]⟩ W (by decide)
  generalize namedP x nl parent but = rr at hres ⊢
  generalize boxOf parent x.boxes = r at hbx hge
  have hb1 := hbx w rfl
  obtain ⟨n, hnn⟩ : ∃ n, x.boxes.length = n := ⟨_, rfl⟩
  have HRES := Lib.hid hres
  have HW := Lib.hid h
  have HT0 := Lib.hid ht0
  have HNN := Lib.hid hnn
  have c10 := h.cell10
  have c3 : w.cell? ⟨g, 3, none⟩ = some (.int .i64 x.cfg.maxBoxes) := h.cells 3
  obtain ⟨A, cap, hvb, _, _⟩ := h.boxes.form
  rw [hvb, hnn] at c10
  have HVB := Lib.hid hvb
  have hgl := h.blk.lt
  obtain ⟨mb, hmb⟩ : ∃ mb, x.cfg.maxBoxes = mb := ⟨_, rfl⟩
  rw [hmb] at c3
  have HMB := Lib.hid hmb
  clear hbx hres hbn hA h ht0 hnn hmb hvb
  go_enter Tryz.func70, Tryz.ntmps70
  go_upto_region 1 with (fail)
  go_cut [20] (fun v wx => v = .bool false ∧ Hid (Below w.heap.size w wx))
  case first =>
    rcases hge with hp | ⟨hp, hr⟩
    · subst hp
      go_wp2_with fail
      go_meet
      exact ⟨rfl, Lib.hid (Below.refl _ _)⟩
    · have hp2 : (parent != 0) = true := by simpa using hp
      have hr2 : ¬ r < 0 := by omega
      go_wp2_with (first
        | (go_at_call 74; refine hb1.mono ?_; rintro e w3 ⟨rfl, hb3⟩; have HB3 := Lib.hid hb3; clear hb3)
        | fail)
      go_meet
      exact ⟨by rw [decide_eq_false (Int.not_lt.2 hr2)], HB3⟩
  case rest =>
    obtain ⟨rfl, HB1⟩ := hcut
    obtain ⟨w1, rfl⟩ : ∃ w1 : World, w1 = wc := ⟨_, rfl⟩
    go_upto_region 3 with (fail)
    go_cut [9] (fun v wx => v = .bool t0 ∧ Hid (Below w.heap.size w wx))
    case first =>
      rcases hge with hp | ⟨hp, hr⟩
      · subst hp
        obtain ⟨fl, hfl⟩ : ∃ fl, lowL nl = fl := ⟨_, rfl⟩
        have e1 : lowS ⟨nl.toArray⟩ = ⟨fl.toArray⟩ := by
          unfold lowS
          rw [← hfl]
        have e2 : lowS ⟨#[73, 78, 66, 79, 88]⟩ = ⟨[105, 110, 98, 111, 120].toArray⟩ := by decide
        simp only [e1] at hf
        simp only [e2] at hf2
        have ht : t0 = (fl == [105, 110, 98, 111, 120]) := by
          rw [← HT0.out, ← hfl]
          unfold namedTw
          rw [List.take_zero]
          rw [show lowL inboxT = [105, 110, 98, 111, 120] from by decide]
          simp only [decide_true, Bool.true_and, List.any_nil, Bool.or_false]
          rw [Bool.eq_iff_iff]
          simp
        have HTT := Lib.hid ht
        clear ht hfl e1 e2
        go_wp2_with (first
          | (go_at_call 127; (with_reducible refine (hf _).mono ?_); rintro e w3 ⟨rfl, hb3⟩; have HB3 := Lib.hid hb3; clear hb3 hf)
          | (go_at_call 127; (with_reducible refine (hf2 _).mono ?_); rintro e w4 ⟨rfl, hb4⟩; have HB4 := Lib.hid hb4; clear hb4)
          | fail)
        go_meet
        exact ⟨by rw [HTT.out], Lib.hid (below_then HB1.out (below_then HB3.out HB4.out))⟩
      · have hp2 : (parent == 0) = false := by simpa using hp
        have ht : t0 = false := by
          rw [← HT0.out]
          unfold namedTw
          rw [List.take_zero, decide_eq_false hp]
          rfl
        subst ht
        go_wp2_with fail
        go_meet
        exact ⟨rfl, HB1⟩
    case rest =>
      obtain ⟨rfl, HB2⟩ := hcut
      obtain ⟨w2, rfl⟩ : ∃ w2 : World, w2 = wc := ⟨_, rfl⟩
      have k10 := (HB2.out.cell (p := ⟨g, 10, none⟩) hgl).trans c10
      go_wp2_with fail
      go_loopw [9, 10, 34] (fun t c i wr => ∃ (k cn : Nat) (tb : Bool), k ≤ n ∧ cn ≤ k ∧ i = .int .i64 k ∧ t = .bool tb ∧ c = .int .i64 cn ∧ Hid (Below w.heap.size w wr) ∧ Hid (namedTw x nl parent but k = tb) ∧ Hid (namedCt x but k = cn)) (fun _ _ i _ => n - (intOf i).toNat)
      case atStart => exact ⟨0, 0, t0, Nat.zero_le _, Nat.zero_le _, rfl, rfl, rfl, HB2, HT0, Lib.hid rfl⟩
      case round =>
        obtain ⟨k, cn, tb, hk, hcn, rfl, rfl, rfl, HU, HT, HC⟩ := hrel
        by_cases hlt : k < n
        · have hkl : k < x.boxes.length := by rw [HNN.out]; exact hlt
          obtain ⟨b, off, cap', hv, _, _, _, hblt, hat⟩ := HW.out.boxAt k hkl
          have hv2 := hv.symm.trans HVB.out
          injection hv2 with hv3 _ hv4
          subst hv3 hv4
          have hat2 : ∀ j, j < 6 → wr.cell? ⟨b, off + k * 6 + j, none⟩ = (encB x.boxes[k])[j]? := fun j hj => (HU.out.cell hblt).trans (hat j hj).1
          have hts := namedTw_succ x nl parent but k hkl
          have hcs := namedCt_succ x but k hkl
          rw [HT.out] at hts
          rw [HC.out] at hcs
          obtain ⟨y, hy⟩ : ∃ y, x.boxes[k] = y := ⟨_, rfl⟩
          rw [hy] at hat2 hts hcs
          obtain ⟨yid, yname, ypar, yval, ynext, ymod⟩ := y
          have e0 : wr.cell? ⟨b, off + k * 6, none⟩ = some (.int .i64 yid) := hat2 0 (by omega)
          have e1 : wr.cell? ⟨b, off + k * 6 + 1, none⟩ = some (.string ⟨yname.toArray⟩) := hat2 1 (by omega)
          have e2 : wr.cell? ⟨b, off + k * 6 + 2, none⟩ = some (.int .i64 ypar) := hat2 2 (by omega)
          have e3 : wr.cell? ⟨b, off + k * 6 + 3, none⟩ = some (.int .i64 yval) := hat2 3 (by omega)
          have e4 : wr.cell? ⟨b, off + k * 6 + 4, none⟩ = some (.int .i64 ynext) := hat2 4 (by omega)
          have e5 : wr.cell? ⟨b, off + k * 6 + 5, none⟩ = some (.int .i64 ymod) := hat2 5 (by omega)
          simp only at hts hcs
          have HTS := Lib.hid hts
          have HCS := Lib.hid hcs
          clear hat hat2 hts hcs hy
          have hcw : IntKind.i64.wrap ((cn : Int) + 1) = (cn : Int) + 1 := IntWalk.i64_in _ (by omega)
          by_cases q1 : yid = but
          · have h1 : (yid == but) = true := by simpa using q1
            have HX := Lib.hid (below_then HU.out (below_alloc1 wr (.cells #[.int .i64 yid, .string ⟨yname.toArray⟩, .int .i64 ypar, .int .i64 yval, .int .i64 ynext, .int .i64 ymod] 52)))
            have HT2 : Hid (namedTw x nl parent but (k + 1) = tb) := Lib.hid (by rw [HTS.out]; simp [q1])
            have HC2 : Hid (namedCt x but (k + 1) = cn) := Lib.hid (by rw [HCS.out]; simp [q1])
            clear q1 HTS HCS
            go_wp2_with fail
            refine ⟨?_, by simp [intOf]; omega⟩
            first | exact ⟨k + 1, cn, tb, by omega, by omega, by go_num, rfl, rfl, HX, HT2, HC2⟩ | ((repeat apply Exists.intro); exact ⟨⟨k + 1, cn, tb, by omega, by omega, by go_num, rfl, rfl, HX, HT2, HC2⟩, rfl⟩)
          · have h1 : (yid == but) = false := by simpa using q1
            have HX := Lib.hid (below_then HU.out (below_alloc1 wr (.cells #[.int .i64 yid, .string ⟨yname.toArray⟩, .int .i64 ypar, .int .i64 yval, .int .i64 ynext, .int .i64 ymod] 52)))
            have HC2 : Hid (namedCt x but (k + 1) = cn + 1) := Lib.hid (by rw [HCS.out]; simp [q1])
            cases tb with
            | true =>
              have HT2 : Hid (namedTw x nl parent but (k + 1) = true) := Lib.hid (by rw [HTS.out, Bool.true_or])
              clear q1 HTS HCS
              go_wp2_with fail
              refine ⟨?_, by simp [intOf]; omega⟩
              first | exact ⟨k + 1, cn + 1, true, by omega, by omega, by go_num, rfl, by go_num, HX, HT2, HC2⟩ | ((repeat apply Exists.intro); exact ⟨⟨k + 1, cn + 1, true, by omega, by omega, by go_num, rfl, by go_num, HX, HT2, HC2⟩, rfl⟩)
            | false =>
              by_cases q2 : ypar = parent
              · have h2 : (ypar == parent) = true := by simpa using q2
                have HT2 : Hid (namedTw x nl parent but (k + 1) = (yname == nl)) := Lib.hid (by
                  rw [HTS.out]
                  simp only [Bool.false_or, decide_eq_true (show yid ≠ but from q1), decide_eq_true q2, Bool.true_and]
                  rw [Bool.eq_iff_iff]
                  simp)
                clear q1 q2 HTS HCS
                go_wp2_with fail
                refine ⟨?_, by simp [intOf]; omega⟩
                first | exact ⟨k + 1, cn + 1, _, by omega, by omega, by go_num, rfl, by go_num, HX, HT2, HC2⟩ | ((repeat apply Exists.intro); exact ⟨⟨k + 1, cn + 1, _, by omega, by omega, by go_num, rfl, by go_num, HX, HT2, HC2⟩, rfl⟩)
              · have h2 : (ypar == parent) = false := by simpa using q2
                have HT2 : Hid (namedTw x nl parent but (k + 1) = false) := Lib.hid (by
                  rw [HTS.out]
                  simp [q2])
                clear q1 q2 HTS HCS
                go_wp2_with fail
                refine ⟨?_, by simp [intOf]; omega⟩
                first | exact ⟨k + 1, cn + 1, false, by omega, by omega, by go_num, rfl, by go_num, HX, HT2, HC2⟩ | ((repeat apply Exists.intro); exact ⟨⟨k + 1, cn + 1, false, by omega, by omega, by go_num, rfl, by go_num, HX, HT2, HC2⟩, rfl⟩)
        · have hkn : k = n := by omega
          subst hkn
          have k3 := (HU.out.cell (p := ⟨g, 3, none⟩) hgl).trans c3
          have hrr : rr = if tb = true then 5 else if mb ≤ (cn : Int) then 8 else 0 := by
            rw [HRES.out, HNN.out, HT.out, HC.out, HMB.out]
          have HR := Lib.hid hrr
          clear hrr
          cases tb with
          | true =>
            have HR2 : Hid (rr = 5) := Lib.hid (by rw [HR.out]; rfl)
            go_wp2_with fail
            go_ret
            exact ⟨ret_int HR2.out.symm, HU.out⟩
          | false =>
            by_cases q3 : mb ≤ (cn : Int)
            · have HR2 : Hid (rr = 8) := Lib.hid (by rw [HR.out, if_neg (by simp), if_pos q3])
              go_wp2_with fail
              go_ret
              exact ⟨ret_int HR2.out.symm, HU.out⟩
            · have HR2 : Hid (rr = 0) := Lib.hid (by rw [HR.out, if_neg (by simp), if_neg q3])
              go_wp2_with fail
              go_ret
              exact ⟨ret_int HR2.out.symm, HU.out⟩

end Go.Proofs.YtmbibhphpjmboaaGreatDoor

namespace Go.Proofs.YtmbibhphpjmboaaGreatDoor
open Go.Shelf Go.RowKit
attribute [local go_sem ↓] Go.wp_at_zero Go.wp_at_succ

theorem rightU_len {t : Text} (h : rightU t = true) : t.length ≤ 64 := by
  unfold rightU at h
  simp only [Bool.and_eq_true, decide_eq_true_eq] at h
  exact h.2.1
/-- A single entry, just laid. -/
theorem oneE_sl (w : World) (e : E4) : Sl (w.alloc (.cells #[.int .i64 e.m, .int .i64 e.k, .int .i64 e.i, .int .i64 e.h] 117)) 117 4 (.slice (some ⟨w.heap.size, 0, none⟩) 1 1) (some w.heap.size) 1 (flatE [e]) :=
  ⟨by simp [flatE, encE], .inr ⟨w.heap.size, 0, 1, _, rfl, rfl, Blk.new _ _ _, Nat.le_refl _, by unfold maxLen; omega, by simp, by simp [flatE, encE]⟩⟩
/-- The log's Add of a single entry, just laid. -/
theorem addOne {W0 W : World} {g : Nat} {q : Lies} {x : Acc} (h : StoreAt W0 g q x) (hf : x.log.most = x.cfg.maxLog ∧ (x.log.es.length : Int) ≤ x.cfg.maxLog) (hl : 1 ≤ x.cfg.maxLog ∧ x.cfg.maxLog ≤ 2147483647) (e : E4)
    (hb : Below (W0.alloc (.cells #[.int .i64 e.m, .int .i64 e.k, .int .i64 e.i, .int .i64 e.h] 117)).heap.size (W0.alloc (.cells #[.int .i64 e.m, .int .i64 e.k, .int .i64 e.i, .int .i64 e.h] 117)) W) :
    Calls Tryz.prog 44 #[.pointer (some ⟨q.gl, 0, none⟩), .slice (some ⟨W0.heap.size, 0, none⟩) 1 1] W fun e' w' => e' = .returned (.tuple #[]) ∧ ∃ q'', Turned W0 w' g q { x with log := x.log.add [e] } q'' := by
  have h1 : Turned W0 W g q x q := Turned.of_below h (below_then (below_alloc1 _ _) hb)
  have hs : Sl W 117 4 (.slice (some ⟨W0.heap.size, 0, none⟩) 1 1) (some W0.heap.size) 1 (flatE [e]) := (oneE_sl W0 e).keep (fun b hb2 => hb.block b ((oneE_sl W0 e).lt b hb2))
  refine (addReady h1.at_ (by rw [hf.1]; omega) (by rw [hf.1]; omega) (by omega) hs rfl (by omega) (fun b hb hm => ?_)).mono ?_
  · injection hb with hb
    have := h.lt b hm
    omega
  · rintro e' w' ⟨rfl, q2, ht⟩
    exact ⟨rfl, q2, h1.trans ht⟩

set_option maxRecDepth 100000 in
theorem make_bad (w : World) (g : Nat) (q : Lies) (x : Acc) (nl : Text) (parent : Int) (h : StoreAt w g q x) (hn : nl.length ≤ 1099511627776) (hr : rightU nl = false) :
    Calls Tryz.prog 27 #[.pointer (some ⟨g, 0, none⟩), .string ⟨nl.toArray⟩, .int .i64 parent] w (AppOut w g q (makeP rightU x nl parent)) := by
  have hres : makeP rightU x nl parent = (x, 0, 1) := by
    unfold makeP
    rw [if_pos hr]
  rw [hres]
  have hri := tright_any ⟨nl.toArray⟩ (by show nl.toArray.size ≤ _; simp; omega) w
  rw [show rightU (⟨nl.toArray⟩ : ByteArray).data.toList = false from hr] at hri
  have HS := Lib.hid h
  clear hres h hr
  go_enter Tryz.func27, Tryz.ntmps27
  go_wp2_with (first
    | (go_at_call 69; refine hri.mono ?_; rintro e w2 ⟨rfl, hb2⟩; have HB2 := Lib.hid hb2; clear hb2)
    | fail)
  go_ret2
  exact ⟨rfl, q, Turned.of_below HS.out HB2.out⟩

set_option maxRecDepth 100000 in
theorem make_named (w : World) (g : Nat) (q : Lies) (x : Acc) (nl : Text) (parent : Int) (h : StoreAt w g q x) (hf : Fit x) (hr : rightU nl = true) (hnm : namedP x nl parent 0 ≠ 0) :
    Calls Tryz.prog 27 #[.pointer (some ⟨g, 0, none⟩), .string ⟨nl.toArray⟩, .int .i64 parent] w (AppOut w g q (makeP rightU x nl parent)) := by
  have hnl := rightU_len hr
  have hres : makeP rightU x nl parent = (x, 0, namedP x nl parent 0) := by
    unfold makeP
    rw [if_neg (by rw [hr]; decide), if_pos hnm]
  rw [hres]
  have hri := tright_any ⟨nl.toArray⟩ (by show nl.toArray.size ≤ _; simp; omega) w
  rw [show rightU (⟨nl.toArray⟩ : ByteArray).data.toList = true from hr] at hri
  have hna := fun W (hb : Below w.heap.size w W) => named_any W g q x (h.later hb) (by have := hf.nb; have := hf.clock; have := hf.cfg.mod; omega) nl (by omega) parent 0
  generalize namedP x nl parent 0 = r at hnm hna ⊢
  have hq : (r != 0) = true := by simpa using hnm
  have HS := Lib.hid h
  have HNA := Lib.hid hna
  clear hres h hr hna hnm
  go_enter Tryz.func27, Tryz.ntmps27
  go_wp2_with (first
    | (go_at_call 69; refine hri.mono ?_; rintro e w2 ⟨rfl, hb2⟩; have hn2 := HNA.out w2 hb2; have HB2 := Lib.hid hb2; clear hb2)
    | (go_at_call 70; refine hn2.mono ?_; rintro e w3 ⟨rfl, hb3⟩; have HB3 := Lib.hid (below_then HB2.out hb3); clear hb3 hn2)
    | fail)
  go_ret2
  exact ⟨rfl, q, Turned.of_below HS.out HB3.out⟩

set_option maxRecDepth 100000 in
theorem make_ends (w : World) (g : Nat) (q : Lies) (x : Acc) (nl : Text) (parent : Int) (h : StoreAt w g q x) (hf : Fit x) (hr : rightU nl = true) (hnm : namedP x nl parent 0 = 0) (hen : x.cfg.maxMod ≤ x.clock) :
    Calls Tryz.prog 27 #[.pointer (some ⟨g, 0, none⟩), .string ⟨nl.toArray⟩, .int .i64 parent] w (AppOut w g q (makeP rightU x nl parent)) := by
  have hnl := rightU_len hr
  have hres : makeP rightU x nl parent = (x, 0, 11) := by
    unfold makeP
    rw [if_neg (by rw [hr]; decide), if_neg (by rw [hnm]; decide), if_pos (by simp [Acc.ends, hen])]
  rw [hres]
  have hri := tright_any ⟨nl.toArray⟩ (by show nl.toArray.size ≤ _; simp; omega) w
  rw [show rightU (⟨nl.toArray⟩ : ByteArray).data.toList = true from hr] at hri
  have hna := fun W (hb : Below w.heap.size w W) => named_any W g q x (h.later hb) (by have := hf.nb; have := hf.clock; have := hf.cfg.mod; omega) nl (by omega) parent 0
  rw [hnm] at hna
  have HS := Lib.hid h
  have HNA := Lib.hid hna
  clear hres h hr hna hnm
  go_enter Tryz.func27, Tryz.ntmps27
  go_wp2_with (first
    | (go_at_call 69; refine hri.mono ?_; rintro e w2 ⟨rfl, hb2⟩; have hn2 := HNA.out w2 hb2; have HB2 := Lib.hid hb2; clear hb2)
    | (go_at_call 70; refine hn2.mono ?_; rintro e w3 ⟨rfl, hb3⟩; have hb4 := below_then HB2.out hb3; have c6 : w3.cell? ⟨g, 6, none⟩ = some (.int .i64 x.cfg.maxMod) := (HS.out.later hb4).cells 6; have c9 := (HS.out.later hb4).cell9; have HB3 := Lib.hid hb4; clear hb3 hn2 hb4)
    | (go_at_call 53; refine (ends_any g x.clock x.cfg.maxMod _ ((cell_heap (w := w3) (by rfl) _).trans c9) ((cell_heap (w := w3) (by rfl) _).trans c6)).mono ?_; rintro e w4 ⟨rfl, ne, rfl⟩)
    | fail)
  go_ret2
  exact ⟨rfl, q, (Turned.of_below HS.out HB3.out).then_below (below_drewN' (Below.refl _ _) _)⟩

set_option maxRecDepth 100000 in
set_option maxHeartbeats 4000000 in
theorem make_ok (w : World) (g : Nat) (q : Lies) (x : Acc) (nl : Text) (parent : Int) (h : StoreAt w g q x) (hf : Fit x) (hr : rightU nl = true) (hnm : namedP x nl parent 0 = 0) (hen : ¬ x.cfg.maxMod ≤ x.clock) :
    Calls Tryz.prog 27 #[.pointer (some ⟨g, 0, none⟩), .string ⟨nl.toArray⟩, .int .i64 parent] w (AppOut w g q (makeP rightU x nl parent)) := by
  have hnl := rightU_len hr
  have hres : makeP rightU x nl parent = ({ x with clock := x.clock + 1, lastBox := x.lastBox + 1, boxes := x.boxes ++ [⟨x.lastBox + 1, nl, parent, x.clock + 1, 1, x.clock + 1⟩], log := x.log.add [⟨x.clock + 1, 1, x.lastBox + 1, 1⟩] }, x.lastBox + 1, 0) := by
    unfold makeP
    rw [if_neg (by rw [hr]; decide), if_neg (by rw [hnm]; decide), if_neg (by simp [Acc.ends]; omega)]
  obtain ⟨rr, hrr⟩ : ∃ rr, makeP rightU x nl parent = rr := ⟨_, rfl⟩
  rw [hrr]
  have HRES := Lib.hid (hrr.symm.trans hres)
  have hcl := hf.clock
  have hmo := hf.cfg.mod
  have hlb := hf.lastBox
  have hri := tright_any ⟨nl.toArray⟩ (by show nl.toArray.size ≤ _; simp; omega) w
  rw [show rightU (⟨nl.toArray⟩ : ByteArray).data.toList = true from hr] at hri
  have hna := fun W (hb : Below w.heap.size w W) => named_any W g q x (h.later hb) (by have := hf.nb; omega) nl (by omega) parent 0
  rw [hnm] at hna
  have hlw : IntKind.i64.wrap (x.lastBox + 1) = x.lastBox + 1 := IntWalk.i64_in _ (by omega)
  have HS := Lib.hid h
  have HF := Lib.hid hf
  have HNA := Lib.hid hna
  obtain ⟨Ab, cb, hvb, _, _⟩ := h.boxes.form
  obtain ⟨nb, hnb⟩ : ∃ nb, x.boxes.length = nb := ⟨_, rfl⟩
  rw [hnb] at hvb
  have hnbb : nb ≤ 4294967296 := by
    have := hf.nb
    omega
  have HVB := Lib.hid hvb
  have HNB := Lib.hid hnb
  obtain ⟨i0, hi, hz0, hz1, hz2⟩ := info_parts Try.infoBox
  clear hres h hr hna hnm hrr hvb hnb hf
  go_enter Tryz.func27, Tryz.ntmps27
  go_upto_region 12 with (first
    | (go_at_call 69; refine hri.mono ?_; rintro e w2 ⟨rfl, hb2⟩; have hn2 := HNA.out w2 hb2; have HB2 := Lib.hid hb2; clear hb2)
    | (go_at_call 70; refine hn2.mono ?_; rintro e w3 ⟨rfl, hb3⟩; have hb4 := below_then HB2.out hb3; have c6 : w3.cell? ⟨g, 6, none⟩ = some (.int .i64 x.cfg.maxMod) := (HS.out.later hb4).cells 6; have c9 := (HS.out.later hb4).cell9; have HB3 := Lib.hid hb4; clear hb3 hn2 hb4)
    | (go_at_call 53; refine (ends_any g x.clock x.cfg.maxMod _ ((cell_heap (w := w3) (by rfl) _).trans c9) ((cell_heap (w := w3) (by rfl) _).trans c6)).mono ?_; rintro e w4 ⟨rfl, ne, rfl⟩; have hb5 := (below_then HB3.out (below_drewN' (Below.refl w3.heap.size w3) ne)); have H5 := Lib.hid (HS.out.later hb5); have hst5 := step_any g x.clock _ H5.out.cell9 (H5.out.frozen 9) (by omega); have HB5 := Lib.hid hb5; clear hb5)
    | (go_at_call 56; refine hst5.mono ?_; rintro e w6 ⟨rfl, hw6⟩; have t6 := H5.out.setStruct 9 (.int .i64 (x.clock + 1)) { x with clock := x.clock + 1 } rfl rfl rfl rfl; rw [← hw6] at t6; have c13 := t6.at_.cell13; have f13 := t6.at_.frozen 13; have T6 := Lib.hid t6; clear hst5 hw6 t6)
    | fail)
  obtain ⟨we, hwe⟩ : ∃ we : World, we = w6.setCell ⟨g, 13, none⟩ (.int .i64 (x.lastBox + 1)) := ⟨_, rfl⟩
  rw [← hwe]
  have hT7 : Turned w we g q { x with clock := x.clock + 1, lastBox := x.lastBox + 1 } q := by
    rw [hwe]
    exact ((Turned.of_below HS.out HB5.out).trans T6.out).trans (T6.out.at_.setStruct 13 (.int .i64 (x.lastBox + 1)) { x with clock := x.clock + 1, lastBox := x.lastBox + 1 } rfl rfl rfl rfl)
  clear hwe c13 f13
  have c10 : we.cell? ⟨g, 10, none⟩ = some (.slice Ab nb cb) := by rw [← HVB.out]; exact hT7.at_.cell10
  have f10 : we.frozen? ⟨g, 10, none⟩ = false := hT7.at_.frozen 10
  have c13 : we.cell? ⟨g, 13, none⟩ = some (.int .i64 (x.lastBox + 1)) := hT7.at_.cell13
  have hgl : g < we.heap.size := hT7.at_.blk.lt
  have hgh : g ∉ q.hb.toList := fun hm => hT7.at_.apart.hb (by simpa using hm)
  have hbs : Sl we 52 6 (.slice Ab nb cb) q.hb nb (flatG encB x.boxes) := by
    rw [← HVB.out, ← HNB.out]
    exact hT7.at_.boxes
  have HT7 := Lib.hid hT7
  have HBS := Lib.hid hbs
  have c10a := (World.cell?_alloc_lt we (.cells #[.int .i64 (x.lastBox + 1), .string ⟨nl.toArray⟩, .int .i64 parent, .int .i64 (x.clock + 1), .int .i64 1, .int .i64 (x.clock + 1)] 52) ⟨g, 10, none⟩ hgl).trans c10
  have c13a := (World.cell?_alloc_lt we (.cells #[.int .i64 (x.lastBox + 1), .string ⟨nl.toArray⟩, .int .i64 parent, .int .i64 (x.clock + 1), .int .i64 1, .int .i64 (x.clock + 1)] 52) ⟨g, 13, none⟩ hgl).trans c13
  clear hT7 hbs c6 c9
  go_cut [] (fun wx => ∃ q', Hid (Turned w wx g q { x with clock := x.clock + 1, lastBox := x.lastBox + 1, boxes := x.boxes ++ [⟨x.lastBox + 1, nl, parent, x.clock + 1, 1, x.clock + 1⟩] } q'))
  case first =>
    go_region_law (first
      | (refine step_append_sl _ (by rfl) (.tmp 39) (.tmp 49) _ (by rfl) Tryz.underlying48 hi hz0 hz1 hz2 rfl (by omega) ((HBS.out.alloc _).heap (by rfl)) (by first | (simp [Act.eval]; done) | simp [Act.eval, Act.put]) we.heap.size #[.int .i64 (x.lastBox + 1), .string ⟨nl.toArray⟩, .int .i64 parent, .int .i64 (x.clock + 1), .int .i64 1, .int .i64 (x.clock + 1)] (e' := 52) (fr := (0, 0)) (heap_alloc_new we _) 1 1 (by first | (simp [Act.eval]; done) | simp [Act.eval, Act.put]) (by rfl) (by simp [Value.oneCell']) (by unfold maxLen; omega) (by omega) ?_; intro v2 h2 w9 hs9 hc9 ho9; obtain ⟨A10, c10', rfl, _, _⟩ := hs9.form; have e10 : w9.cell? ⟨g, 10, none⟩ = some (.slice Ab nb cb) := (hc9.cell (p := ⟨g, 10, none⟩) (by simp; omega) hgh).trans ((World.cell?_alloc_past _ _ _ hgl).trans c10); have g10 : w9.frozen? ⟨g, 10, none⟩ = false := (hc9.frozen (p := ⟨g, 10, none⟩) (by simp; omega) hgh).trans ((World.frozen?_alloc_past _ _ _ hgl).trans f10))
      | fail)
    all_goals
      have hpush := (HT7.out.at_.alloc (.cells #[.int .i64 (x.lastBox + 1), .string ⟨nl.toArray⟩, .int .i64 parent, .int .i64 (x.clock + 1), .int .i64 1, .int .i64 (x.clock + 1)] 52)).pushBox ⟨x.lastBox + 1, nl, parent, x.clock + 1, 1, x.clock + 1⟩ (v' := .slice A10 (nb + 1) c10') (h' := h2) (w' := w9) (by
        show Sl w9 _ 6 _ h2 (x.boxes.length + 1) _
        rw [HNB.out]
        exact hs9) ⟨hc9.os, hc9.tape, hc9.output, hc9.size, hc9.block⟩ ho9
      have HPUSH := Lib.hid hpush
      clear hpush hs9 hc9 ho9
      go_wp2_with fail
      go_meet
      exact ⟨_, Lib.hid ((HT7.out.then_below (below_alloc1 we _)).trans HPUSH.out)⟩
  case rest =>
    obtain ⟨q', HT8⟩ := hcut
    obtain ⟨wf, rfl⟩ : ∃ wf : World, wf = wc := ⟨_, rfl⟩
    clear c10 f10 c13 hgl hgh HBS c10a c13a
    go_upto_region 13 with (fail)
    obtain ⟨x3, hx3⟩ : ∃ x3 : Acc, x3 = { x with clock := x.clock + 1, lastBox := x.lastBox + 1, boxes := x.boxes ++ [⟨x.lastBox + 1, nl, parent, x.clock + 1, 1, x.clock + 1⟩] } := ⟨_, rfl⟩
    rw [← hx3] at HT8
    have c12 : wf.cell? ⟨g, 12, none⟩ = some (.pointer (some ⟨q'.gl, 0, none⟩)) := HT8.out.at_.cell12
    have c13 : wf.cell? ⟨g, 13, none⟩ = some (.int .i64 (x.lastBox + 1)) := by
      have h1 := HT8.out.at_.cell13
      rw [hx3] at h1
      exact h1
    have hgl : g < wf.heap.size := HT8.out.at_.blk.lt
    have c12a := (World.cell?_alloc_lt wf (.cells #[.int .i64 (x.clock + 1), .int .i64 1, .int .i64 (x.lastBox + 1), .int .i64 1] 117) ⟨g, 12, none⟩ hgl).trans c12
    have c13a := (World.cell?_alloc_lt wf (.cells #[.int .i64 (x.clock + 1), .int .i64 1, .int .i64 (x.lastBox + 1), .int .i64 1] 117) ⟨g, 13, none⟩ hgl).trans c13
    have hadd := fun W hb => addOne (W := W) HT8.out.at_ (by rw [hx3]; exact HF.out.log) (by rw [hx3]; exact HF.out.cfg.log) ⟨x.clock + 1, 1, x.lastBox + 1, 1⟩ hb
    have HADD := Lib.hid hadd
    have HX3 := Lib.hid hx3
    clear hadd hx3
    go_cut [] (fun wx => ∃ q'', Hid (Turned w wx g q { x3 with log := x3.log.add [⟨x.clock + 1, 1, x.lastBox + 1, 1⟩] } q''))
    case first =>
      go_region_law (first
        | (refine step_call (by rfl) (by rfl) (enters_of Tryz.func44 (by kernel_rfl) rfl) (by first | (simp [Act.eval]; done) | simp [Act.eval, Act.put]) (HADD.out _ ⟨rfl, rfl, rfl, Nat.le_refl _, fun _ _ => rfl⟩) ?_; rintro e w10 ⟨rfl, q10, ht10⟩; refine ⟨_, rfl, ?_⟩; have HT10 := Lib.hid ht10; clear ht10)
        | fail)
      all_goals
        go_wp2_with fail
        go_meet
        exact ⟨q10, Lib.hid (HT8.out.trans HT10.out)⟩
    case rest =>
      obtain ⟨q'', HT9⟩ := hcut
      obtain ⟨wz, rfl⟩ : ∃ wz : World, wz = wc := ⟨_, rfl⟩
      clear c12 c13 hgl c12a c13a HADD
      have z13 : wz.cell? ⟨g, 13, none⟩ = some (.int .i64 (x.lastBox + 1)) := by
        have h1 := HT9.out.at_.cell13
        rw [HX3.out] at h1
        exact h1
      have HFIN : Hid (AppOut w g q rr (.returned (.tuple #[.int .i64 (x.lastBox + 1), .int .i64 0])) wz) := Lib.hid (by
        rw [HRES.out]
        refine ⟨rfl, q'', ?_⟩
        have h1 := HT9.out
        rw [HX3.out] at h1
        exact h1)
      go_wp2_with fail
      go_ret2
      exact HFIN.out

theorem make_any (w : World) (g : Nat) (q : Lies) (x : Acc) (nl : Text) (parent : Int) (h : StoreAt w g q x) (hf : Fit x) (hn : nl.length ≤ 1099511627776) :
    Calls Tryz.prog 27 #[.pointer (some ⟨g, 0, none⟩), .string ⟨nl.toArray⟩, .int .i64 parent] w (AppOut w g q (makeP rightU x nl parent)) := by
  cases hr : rightU nl with
  | false => exact make_bad w g q x nl parent h hn hr
  | true =>
    by_cases h1 : namedP x nl parent 0 = 0
    · by_cases h2 : x.cfg.maxMod ≤ x.clock
      · exact make_ends w g q x nl parent h hf hr h1 h2
      · exact make_ok w g q x nl parent h hf hr h1 h2
    · exact make_named w g q x nl parent h hf hr h1

end Go.Proofs.YtmbibhphpjmboaaGreatDoor
