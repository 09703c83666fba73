/-
  The walk of pillarboxlaw15.FlagMany.
-/
import Derived.Test.YtkgpflobbmagaaaFlagSmall
import Derived.Test.YtkgpflobbmagaaaKeysIns
namespace Go.Proofs.Ytkgpflobbmagaaa
open Go.RowKit Go.Sort
attribute [local go_sem ↓] Go.wp_at_zero Go.wp_at_succ

theorem wpList_append_slY {P : Program} {W : World} {cs : Array Value} {e' : TypeId} {ops : Array Oper} {rest : List Oper} {o : Oper} {a : Act} {Q : Exit → Act → World → Prop}
    (hgd : o.guard = none) (s x : Operand) (t : TypeId)
    (ho : o.op = .call { callee := .builtin .append, args := #[s, x], argTypes := #[t, t] })
    {e : TypeId} {i : TypeInfo} {z : Value} {size bytes : Nat} (ht : P.underlying t = some (.slice e)) (hi : P.info? e = some i) (hz : i.zero = some z)
    (hsize : i.size = size) (hby : i.bytes = bytes) (hzs : z.cells.size = size) (hsz : 0 < size)
    {v : Value} {h : Option Nat} {n : Nat} {xs : List Value} (hsl : Sl W e size v h n xs) (hs : a.eval s = v) (X : Nat) (hX : W.heap.size = X)
    (m c : Nat) (hx : a.eval x = .slice (some ⟨X, 0, none⟩) m c) (hl : cs.toList.length = m * size) (h1 : ∀ u ∈ cs.toList, u.oneCell' = true)
    (h63 : n + m ≤ maxLen) (hbytes : (n + m) * bytes ≤ 140737488355328)
    (hk : ∀ v' h' w', Sl w' e size v' h' (n + m) (xs ++ cs.toList) → Chg h.toList W w' → (h' = h ∨ ∃ g, h' = some g ∧ W.heap.size ≤ g) → wpList P ops Q rest (a.put o.dst v') w') :
    wpList P ops Q (o :: rest) a (W.alloc (.cells cs e')) := by
  subst hX
  exact wpList_append_sl hgd s x t ho ht hi hz hsize hby hzs hsz hsl hs m c hx hl h1 h63 hbytes hk

def nameK (i : Nat) : List UInt8 := [107, (97 + i % 26).toUInt8, (97 + i / 26).toUInt8]
def namesK (k : Nat) : Texts := (List.range k).map nameK
def exes (n : Nat) : List UInt8 := List.replicate n 120
theorem names_keys (k : Nat) (hk : k < 30) : (keysF (namesK k)).2 = if 16 < k then 13 else 0 := by
  have h : ∀ k, k < 30 → (if (namesK k).any (fun s => !rightL s) = true then (([], 1) : Texts × Int) else if 16 < (insAll (namesK k)).length then ([], 13) else (insAll (namesK k), 0)).2 = if 16 < k then 13 else 0 := by decide +kernel
  rw [keysF_ins]
  exact h k hk
theorem exes_right : ∀ n, n < 101 → rightL (exes n) = decide (0 < n ∧ n ≤ 64) := by decide +kernel
theorem exes_keys (n : Nat) (hn : 0 < n) (h : n < 101) : (keysF [exes n]).2 = if 64 < n then 1 else 0 := by
  rw [keysF_ins]
  simp only [List.any_cons, List.any_nil, Bool.or_false, exes_right n h]
  by_cases h64 : 64 < n
  · rw [if_pos h64, if_pos (by simp; omega)]
  · rw [if_neg h64, if_neg (by simp; omega)]
    rfl
theorem nameK_conv (w : World) (c : Nat) (hc : c < 30) : Sem.run Try.prog (convert 29 9 (.slice (some ⟨w.heap.size, 0, none⟩) 3 3)) (w.alloc (.cells #[.int .u8 107, .int .u8 (97 + (c : Int) % 26), .int .u8 (97 + (c : Int) / 26)] 5)) =
    .ok (encStr (nameK c)) (w.alloc (.cells #[.int .u8 107, .int .u8 (97 + (c : Int) % 26), .int .u8 (97 + (c : Int) / 26)] 5)) := by
  have hB := Blk.new w 5 #[.int .u8 107, .int .u8 (97 + (c : Int) % 26), .int .u8 (97 + (c : Int) / 26)]
  refine run_string_row Try.underlying29 Try.underlying5 (l := nameK c) (fun j hj => ?_) 3 rfl 9 Try.underlying9
  refine ⟨?_, hB.frozen j⟩
  rw [hB.cell j]
  match j, hj with
  | 0, _ => rfl
  | 1, _ => simp [nameK]; omega
  | 2, _ => simp [nameK]; omega

theorem exes_succ (j : Nat) : (⟨(exes j).toArray⟩ : ByteArray) ++ ⟨#[120]⟩ = ⟨(exes (j + 1)).toArray⟩ := by
  have h := ByteArray.mk_append_mk (exes j) [120]
  have h2 : exes (j + 1) = exes j ++ [120] := by simp [exes, List.replicate_succ']
  rw [h2]
  exact h
theorem exes_length (j : Nat) : (exes j).length = j := by simp [exes]
/-- A slice of one text that has just been laid. -/
theorem rds_new1 (w : World) (t : TypeId) (u : Value) : RdS (w.alloc (.cells #[u] t)) [] 1 (.slice (some ⟨w.heap.size, 0, none⟩) 1 1) 1 [u] := by
  refine ⟨rfl, .inr ⟨_, 1, rfl, Nat.le_refl _, by decide, fun _ => ⟨rfl, by simp, by simp, fun j hj => ?_⟩⟩⟩
  have hB := Blk.new w t #[u]
  simp only [Nat.zero_add]
  rw [hB.cell j]
  simp

structure ManyAt (w wr : World) (v : Value) (c : Nat) : Prop where
  sl : ∃ h, Sl wr 9 1 v h c ((namesK c).map encStr) ∧ ∀ b, h = some b → w.heap.size ≤ b
  below : Below w.heap.size w wr

set_option maxRecDepth 100000 in
set_option maxHeartbeats 4000000 in
theorem flagMany_any (a b : Nat) (ha : a ≤ 255) (hb : b ≤ 255) (w : World) :
    Calls Try.prog 11 #[.int .u8 a, .int .u8 b] w fun e w' => e = .returned (.bool true) ∧ Below w.heap.size w w' := by
  obtain ⟨i0, hi, hz0, hz1, hz2⟩ := info_parts Try.infoString
  obtain ⟨k, hk⟩ : ∃ k : Nat, (a : Int) % 30 = k := ⟨a % 30, by omega⟩
  obtain ⟨n, hn⟩ : ∃ n : Nat, 1 + (b : Int) % 100 = n := ⟨1 + b % 100, by omega⟩
  have hk30 : k < 30 := by omega
  have hn1 : 0 < n := by omega
  have hn101 : n < 101 := by omega
  have HK := Lib.hid hk
  have HN := Lib.hid hn
  clear hk hn
  go_enter Try.func11, Try.ntmps11
  go_upto_block 0 with (fail)
  rw [HN.out, HK.out]
  go_cut [7] (fun v wx => Hid (ManyAt w wx v k))
  case first =>
    go_wp2_with fail
    go_loopw [7, 8] (fun v i wr => ∃ c : Nat, c ≤ k ∧ i = .int .i64 c ∧ Hid (ManyAt w wr v c)) (fun _ i _ => k - (intOf i).toNat)
    case atStart => exact ⟨0, Nat.zero_le _, rfl, Lib.hid ⟨⟨none, Sl.nil _ _ _, fun b hb => by cases hb⟩, Below.refl _ _⟩⟩
    case round =>
      obtain ⟨c, hc, rfl, HU⟩ := hrel
      by_cases hlt : c < k
      · have hconv := nameK_conv wr c (by omega)
        obtain ⟨⟨h, hs, hf⟩, hbel⟩ := HU.out
        have HS := Lib.hid hs
        have HF := Lib.hid (And.intro hf hbel)
        clear hs hf hbel
        obtain ⟨A0, cap0, hv, _, _⟩ := HS.out.form
        go_wp2_with (at_builtin; refine wpList_append_slY rfl _ _ 71 rfl Try.underlying71 hi hz0 hz1 hz2 rfl (by decide) (HS.out.alloc _) rfl (wr.heap.size + 1) (by simp) 1 1 rfl rfl ?_ ?_ ?_ ?_)
        · rfl
        · unfold maxLen
          omega
        · omega
        · intro v2 h2 w2 hs2 hc2 ho2
          obtain ⟨A2, cap2, rfl, _, _⟩ := hs2.form
          have hsz := HF.out.2.size
          have HU2 : Hid (ManyAt w w2 (.slice A2 (c + 1) cap2) (c + 1)) := Lib.hid (by
            refine ⟨⟨h2, ?_, fun b hb => ?_⟩, ?_⟩
            · have hnm : namesK (c + 1) = namesK c ++ [nameK c] := by simp [namesK, List.range_succ]
              rw [hnm, List.map_append]
              exact hs2
            · rcases ho2 with h3 | ⟨g, h3, h4⟩
              · exact HF.out.1 b (h3 ▸ hb)
              · rw [h3] at hb
                injection hb with hb
                omega
            · exact (HF.out.2.alloc hsz _).trans (hc2.below (by simp; omega) fun k hk => HF.out.1 k (by simpa using hk)))
          clear hs2 hc2 ho2
          go_wp2
          refine ⟨?_, by simp [intOf]; omega⟩
          first | exact ⟨c + 1, by omega, by go_num, HU2⟩ | ((repeat apply Exists.intro); exact ⟨⟨c + 1, by omega, by go_num, HU2⟩, rfl⟩)
      · have hck : c = k := by omega
        subst hck
        go_wp2_with fail
        go_meet
        exact HU
  case rest =>
    have HU := Lib.hid hcut.out
    clear hcut
    have hAw := fun W => awake15_any W
    have hNu := fun W n => numF_any W n
    obtain ⟨⟨h, hs, hf⟩, hbel⟩ := HU.out
    have hk1 := keys_any wc _ k (namesK k) (by simp [namesK]) (by omega) (hs.reads [] (by simp)) (fun s hs => by
      simp only [namesK, List.mem_map] at hs
      obtain ⟨i, _, rfl⟩ := hs
      simp [nameK])
    obtain ⟨A0, cap0, rfl, _, _⟩ := hs.form
    have HB0 := Lib.hid hbel
    clear hs hf hbel HU
    have E1 := names_keys k hk30
    generalize keysF (namesK k) = kf at hk1 E1
    obtain ⟨ks, er⟩ := kf
    simp only at hk1 E1
    have HE1 := Lib.hid E1
    clear E1
    go_upto_block 2 with (first
      | (go_at_call 33; refine hk1.mono ?_; rintro e w2 ⟨B2, cap2, hh2, rfl, hs2, hb2, _⟩; have HB2 := Lib.hid (bthen HB0.out hb2); clear hs2 hb2 hk1)
      | fail)
    go_cut [11] (fun s wx => s = .string ⟨(exes n).toArray⟩ ∧ Hid (wx = w2))
    case first =>
      go_wp2_with fail
      go_loop [11, 12] (fun s i => ∃ j : Nat, j ≤ n ∧ i = .int .i64 j ∧ s = .string ⟨(exes j).toArray⟩) (fun _ i => n - (intOf i).toNat)
      case atStart => exact ⟨0, Nat.zero_le _, rfl, rfl⟩
      case round =>
        obtain ⟨j, hj, rfl, rfl⟩ := hrel
        by_cases hlt : j < n
        · have hle : ¬ 9223372036854775807 < (exes j).length + 1 := by rw [exes_length]; omega
          go_wp2
          go_round
          case rel => exact ⟨j + 1, by omega, by go_num, congrArg Value.string (exes_succ j)⟩
          case measure => simp [intOf]; omega
        · have hjn : j = n := by omega
          subst hjn
          go_wp2_with fail
          go_meet
          exact ⟨rfl, Lib.hid rfl⟩
    case rest =>
      obtain ⟨rfl, hw⟩ := hcut
      have hw' := hw.out
      subst hw'
      have E2 := exes_keys n hn1 hn101
      have E3 := exes_right n hn101
      have hk2 := keys_any (wc.alloc (.cells #[encStr (exes n)] 9)) _ 1 [exes n] rfl (by decide) (rds_new1 wc 9 (encStr (exes n))) (fun s hs => by
        simp only [List.mem_singleton] at hs
        subst hs
        rw [exes_length]
        omega)
      have hR := fun W => right_any ⟨(exes n).toArray⟩ W (by show (exes n).toArray.size ≤ _; simp [exes_length]; omega)
      by_cases c16 : 16 < k
      · by_cases c64 : 64 < n
        · have f1 : decide ((16 : Int) < (k : Int)) = true := decide_eq_true (by omega)
          have f2 : decide ((64 : Int) < (n : Int)) = true := decide_eq_true (by omega)
          have f3 : decide ((n : Int) ≤ 64) = false := decide_eq_false (by omega)
          have f4 : er = 13 := by have := HE1.out; rw [if_pos c16] at this; exact this
          subst f4
          rw [if_pos c64] at E2
          rw [decide_eq_false (show ¬ (0 < n ∧ n ≤ 64) by omega)] at E3
          simp only [E2] at hk2
          simp only [E3] at hR
          clear E2 E3 c16 c64 HE1
          go_wp2_with (first
            | (go_at_call 33; refine hk2.mono ?_; rintro e w4 ⟨B4, cap4, hh4, rfl, hs4, hb4, _⟩; have HB4 := Lib.hid (bthen (HB2.out.alloc HB2.out.size _) hb4); clear hs4 hb4 hk2)
            | (go_at_call 20; refine (hNu _ _).mono ?_; rintro e wn ⟨rfl, rfl⟩)
            | (go_at_call 13; refine (hR _).mono ?_; rintro e w5 ⟨rfl, hb5⟩; have HB5 := Lib.hid (bthen HB4.out hb5); clear hb5)
            | (go_at_call 14; refine (hAw _).mono ?_; rintro e w6 ⟨rfl, hb6⟩; have HB6 := Lib.hid (bthen HB5.out hb6); clear hb6)
            | fail)
          go_ret
          exact ⟨rfl, HB6.out⟩
        · have f1 : decide ((16 : Int) < (k : Int)) = true := decide_eq_true (by omega)
          have f2 : decide ((64 : Int) < (n : Int)) = false := decide_eq_false (by omega)
          have f3 : decide ((n : Int) ≤ 64) = true := decide_eq_true (by omega)
          have f4 : er = 13 := by have := HE1.out; rw [if_pos c16] at this; exact this
          subst f4
          rw [if_neg c64] at E2
          rw [decide_eq_true (show 0 < n ∧ n ≤ 64 by omega)] at E3
          simp only [E2] at hk2
          simp only [E3] at hR
          clear E2 E3 c16 c64 HE1
          go_wp2_with (first
            | (go_at_call 33; refine hk2.mono ?_; rintro e w4 ⟨B4, cap4, hh4, rfl, hs4, hb4, _⟩; have HB4 := Lib.hid (bthen (HB2.out.alloc HB2.out.size _) hb4); clear hs4 hb4 hk2)
            | (go_at_call 20; refine (hNu _ _).mono ?_; rintro e wn ⟨rfl, rfl⟩)
            | (go_at_call 13; refine (hR _).mono ?_; rintro e w5 ⟨rfl, hb5⟩; have HB5 := Lib.hid (bthen HB4.out hb5); clear hb5)
            | (go_at_call 14; refine (hAw _).mono ?_; rintro e w6 ⟨rfl, hb6⟩; have HB6 := Lib.hid (bthen HB5.out hb6); clear hb6)
            | fail)
          go_ret
          exact ⟨rfl, HB6.out⟩
      · by_cases c64 : 64 < n
        · have f1 : decide ((16 : Int) < (k : Int)) = false := decide_eq_false (by omega)
          have f2 : decide ((64 : Int) < (n : Int)) = true := decide_eq_true (by omega)
          have f3 : decide ((n : Int) ≤ 64) = false := decide_eq_false (by omega)
          have f4 : er = 0 := by have := HE1.out; rw [if_neg c16] at this; exact this
          subst f4
          rw [if_pos c64] at E2
          rw [decide_eq_false (show ¬ (0 < n ∧ n ≤ 64) by omega)] at E3
          simp only [E2] at hk2
          simp only [E3] at hR
          clear E2 E3 c16 c64 HE1
          go_wp2_with (first
            | (go_at_call 33; refine hk2.mono ?_; rintro e w4 ⟨B4, cap4, hh4, rfl, hs4, hb4, _⟩; have HB4 := Lib.hid (bthen (HB2.out.alloc HB2.out.size _) hb4); clear hs4 hb4 hk2)
            | (go_at_call 20; refine (hNu _ _).mono ?_; rintro e wn ⟨rfl, rfl⟩)
            | (go_at_call 13; refine (hR _).mono ?_; rintro e w5 ⟨rfl, hb5⟩; have HB5 := Lib.hid (bthen HB4.out hb5); clear hb5)
            | (go_at_call 14; refine (hAw _).mono ?_; rintro e w6 ⟨rfl, hb6⟩; have HB6 := Lib.hid (bthen HB5.out hb6); clear hb6)
            | fail)
          go_ret
          exact ⟨rfl, HB6.out⟩
        · have f1 : decide ((16 : Int) < (k : Int)) = false := decide_eq_false (by omega)
          have f2 : decide ((64 : Int) < (n : Int)) = false := decide_eq_false (by omega)
          have f3 : decide ((n : Int) ≤ 64) = true := decide_eq_true (by omega)
          have f4 : er = 0 := by have := HE1.out; rw [if_neg c16] at this; exact this
          subst f4
          rw [if_neg c64] at E2
          rw [decide_eq_true (show 0 < n ∧ n ≤ 64 by omega)] at E3
          simp only [E2] at hk2
          simp only [E3] at hR
          clear E2 E3 c16 c64 HE1
          go_wp2_with (first
            | (go_at_call 33; refine hk2.mono ?_; rintro e w4 ⟨B4, cap4, hh4, rfl, hs4, hb4, _⟩; have HB4 := Lib.hid (bthen (HB2.out.alloc HB2.out.size _) hb4); clear hs4 hb4 hk2)
            | (go_at_call 20; refine (hNu _ _).mono ?_; rintro e wn ⟨rfl, rfl⟩)
            | (go_at_call 13; refine (hR _).mono ?_; rintro e w5 ⟨rfl, hb5⟩; have HB5 := Lib.hid (bthen HB4.out hb5); clear hb5)
            | (go_at_call 14; refine (hAw _).mono ?_; rintro e w6 ⟨rfl, hb6⟩; have HB6 := Lib.hid (bthen HB5.out hb6); clear hb6)
            | fail)
          go_ret
          exact ⟨rfl, HB6.out⟩

end Go.Proofs.Ytkgpflobbmagaaa
