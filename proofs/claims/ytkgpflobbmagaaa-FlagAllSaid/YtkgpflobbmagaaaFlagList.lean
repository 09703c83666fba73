/-
  The walks of flag.List and of the reference's Flags.
-/
import Derived.Test.YtkgpflobbmagaaaRefKeys
namespace Go.Proofs.Ytkgpflobbmagaaa
open Go.RowKit Go.Sort
attribute [local go_sem ↓] Go.wp_at_zero Go.wp_at_succ

def flagB (s : List UInt8) : List UInt8 := (flagOf ⟨s.toArray⟩).data.toList
theorem flagB_is (s : List UInt8) : flagOf ⟨s.toArray⟩ = ⟨(flagB s).toArray⟩ := of_dataL _ _ rfl
theorem flagB_length (s : List UInt8) (h : s.length ≤ 300) : (flagB s).length ≤ 300 := by
  unfold flagB flagOf
  repeat' split
  all_goals first | (simp; done) | simpa using h
/-- The flags of the first i, with blanks between. -/
def J (l : Texts) (i : Nat) : List UInt8 := Lib.join ((l.take i).map flagB) [32]
theorem J_zero (l : Texts) : J l 0 = [] := by simp [J, Lib.join_nil]
theorem J_first (l : Texts) (h : 0 < l.length) : J l 1 = flagB l[0] := by
  unfold J
  rw [List.take_succ_eq_append_getElem h]
  simp [Lib.join_one]
theorem J_succ (l : Texts) (i : Nat) (hi : 0 < i) (h : i < l.length) : J l (i + 1) = J l i ++ [32] ++ flagB l[i] := by
  unfold J
  rw [List.take_succ_eq_append_getElem h, List.map_append]
  cases hm : (l.take i).map flagB with
  | nil =>
    have := congrArg List.length hm
    rw [List.length_map, List.length_take, List.length_nil] at this
    omega
  | cons x r =>
    rw [List.cons_append, Lib.join_cons, Lib.join_cons]
    simp [Lib.joinTail]
theorem J_length (l : Texts) (h3 : ∀ s ∈ l, s.length ≤ 300) : ∀ i, i ≤ l.length → (J l i).length ≤ i * 301
  | 0, _ => by simp [J_zero]
  | i + 1, h => by
    have ih := J_length l h3 i (Nat.le_of_succ_le h)
    have h1 := flagB_length l[i] (h3 _ (List.getElem_mem (by omega)))
    by_cases h0 : i = 0
    · subst h0
      rw [J_first l (by omega)]
      exact Nat.le_trans h1 (by omega)
    · rw [J_succ l i (by omega) (by omega)]
      simp only [List.length_append, List.length_cons, List.length_nil]
      omega

set_option maxRecDepth 100000 in
set_option maxHeartbeats 2000000 in
theorem refFlags_any (w : World) (v : Value) (n : Nat) (l : Texts) (hn : l.length = n) (hnb : n ≤ 100) (hr : RdS w [] 1 v n (l.map encStr)) (h3 : ∀ s ∈ l, s.length ≤ 300) :
    Calls Try.prog 41 #[v] w fun e w' => e = .returned (.string ⟨(40 :: J l n ++ [41]).toArray⟩) ∧ Below w.heap.size w w' := by
  obtain ⟨A, cap, rfl, _, _⟩ := hr.form
  have HR := Lib.hid hr
  have HN := Lib.hid hn
  have H3 := Lib.hid h3
  clear hr hn h3
  go_enter Try.func41, Try.ntmps41
  go_wp2
  go_loopw [3, 4] (fun s i wr => ∃ (k : Nat) (t : List UInt8), k ≤ n ∧ i = .int .i64 k ∧ s = .string ⟨t.toArray⟩ ∧ Hid (t = 40 :: J l k) ∧ Hid (Below w.heap.size w wr)) (fun _ i _ => n - (intOf i).toNat)
  case atStart => exact ⟨0, [40], Nat.zero_le _, rfl, rfl, Lib.hid (by rw [J_zero]), Lib.hid (Below.refl _ _)⟩
  case round =>
    obtain ⟨k, t, hk, rfl, rfl, HT, HB⟩ := hrel
    have htl : t.length ≤ 40000 := by
      rw [HT.out, List.length_cons]
      have := J_length l H3.out k (by rw [HN.out]; exact hk)
      omega
    by_cases hlt : k < n
    · have hke : k < l.length := by rw [HN.out]; exact hlt
      obtain ⟨b, off, cap2, hva, hbl, _, hat⟩ := HR.out.str k hke
      injection hva with hva1 _ hva3
      subst hva1
      subst hva3
      have d0 : wr.cell? ⟨b, off + k, none⟩ = some (encStr l[k]) := (HB.out.cell (p := ⟨b, off + k, none⟩) hbl).trans hat
      have hfl := flagB_length l[k] (H3.out _ (List.getElem_mem hke))
      have hc := refFlag_any ⟨l[k].toArray⟩ wr
      rw [flagB_is] at hc
      by_cases hk0 : k = 0
      · have hj : t ++ flagB l[k] = 40 :: J l (k + 1) := by
          subst hk0
          rw [HT.out, J_zero, J_first l hke]
          rfl
        have HJ := Lib.hid hj
        have g0 : decide (0 < k) = false := decide_eq_false (by omega)
        generalize l[k] = x at d0 hc hfl HJ
        generalize flagB x = fb at hc hfl HJ
        have n1 : ¬ 9223372036854775807 < t.length + fb.length := by omega
        clear hj hk0 hat
        go_wp2_with (first
          | (go_at_call 39; refine hc.mono ?_; rintro e w2 ⟨rfl, hb2⟩; have HB2 := Lib.hid (bthen HB.out hb2); clear hb2 hc)
          | fail)
        refine ⟨?_, by simp [intOf]; omega⟩
        first | exact ⟨k + 1, t ++ fb, by omega, by go_num, congrArg Value.string (ByteArray.mk_append_mk t fb), HJ, HB2⟩ | ((repeat apply Exists.intro); exact ⟨⟨k + 1, t ++ fb, by omega, by go_num, congrArg Value.string (ByteArray.mk_append_mk t fb), HJ, HB2⟩, rfl⟩)
      · have hj : t ++ [32] ++ flagB l[k] = 40 :: J l (k + 1) := by
          rw [HT.out, J_succ l k (by omega) hke]
          simp
        have HJ := Lib.hid hj
        have g0 : decide (0 < k) = true := decide_eq_true (by omega)
        generalize l[k] = x at d0 hc hfl HJ
        generalize flagB x = fb at hc hfl HJ
        have n1 : ¬ 9223372036854775807 < t.length + 1 := by omega
        have n2 : ¬ 9223372036854775807 < t.length + 1 + fb.length := by omega
        clear hj hk0 hat
        go_wp2_with (first
          | (go_at_call 39; refine hc.mono ?_; rintro e w2 ⟨rfl, hb2⟩; have HB2 := Lib.hid (bthen HB.out hb2); clear hb2 hc)
          | fail)
        have heq : (⟨t.toArray⟩ : ByteArray) ++ ⟨#[32]⟩ ++ ⟨fb.toArray⟩ = ⟨(t ++ [32] ++ fb).toArray⟩ := by
          have h1 := ByteArray.mk_append_mk t [32]
          have h2 := ByteArray.mk_append_mk (t ++ [32]) fb
          rw [← h2, ← h1]
        refine ⟨?_, by simp [intOf]; omega⟩
        first | exact ⟨k + 1, t ++ [32] ++ fb, by omega, by go_num, congrArg Value.string heq, HJ, HB2⟩ | ((repeat apply Exists.intro); exact ⟨⟨k + 1, t ++ [32] ++ fb, by omega, by go_num, congrArg Value.string heq, HJ, HB2⟩, rfl⟩)
    · have hkn : k = n := by omega
      subst hkn
      have n1 : ¬ 9223372036854775807 < t.length + 1 := by omega
      go_wp2_with fail
      go_ret
      refine ⟨ret_str ?_, HB.out⟩
      have h1 := ByteArray.mk_append_mk t [41]
      have h2 : 40 :: (J l k ++ [41]) = t ++ [41] := by rw [HT.out]; rfl
      first | rw [h2, ← h1] | (rw [← HT.out, ← h1])
      try rfl

structure ListAt (w wr : World) (v : Value) (l : Texts) (c : Nat) : Prop where
  sl : ∃ h, Sl wr 9 1 v h c (((l.take c).map flagB).map encStr) ∧ ∀ b, h = some b → w.heap.size ≤ b
  below : Below w.heap.size w wr

set_option maxRecDepth 100000 in
set_option maxHeartbeats 2000000 in
theorem list_any (w : World) (v : Value) (n : Nat) (l : Texts) (hn : l.length = n) (hnb : n ≤ 100) (hr : RdS w [] 1 v n (l.map encStr)) (h3 : ∀ s ∈ l, s.length ≤ 300) :
    Calls Try.prog 40 #[v] w fun e w' => e = .returned (.string ⟨(40 :: J l n ++ [41]).toArray⟩) ∧ Below w.heap.size w w' := by
  obtain ⟨i0, hi, hz0, hz1, hz2⟩ := info_parts Try.infoString
  obtain ⟨A, cap, rfl, _, _⟩ := hr.form
  have HR := Lib.hid hr
  have HN := Lib.hid hn
  have H3 := Lib.hid h3
  clear hr hn h3
  go_enter Try.func40, Try.ntmps40
  go_wp2
  go_loopw [3, 8] (fun o i wr => ∃ k : Nat, k ≤ n ∧ i = .int .i64 k ∧ Hid (ListAt w wr o l k)) (fun _ i _ => n - (intOf i).toNat)
  case atStart => exact ⟨0, Nat.zero_le _, rfl, Lib.hid ⟨⟨none, Sl.nil _ _ _, fun b hb => by cases hb⟩, Below.refl _ _⟩⟩
  case round =>
    obtain ⟨k, hk, rfl, HU⟩ := hrel
    by_cases hlt : k < n
    · have hke : k < l.length := by rw [HN.out]; exact hlt
      obtain ⟨b, off, cap2, hva, hbl, _, hat⟩ := HR.out.str k hke
      injection hva with hva1 _ hva3
      subst hva1
      subst hva3
      have d0 : wr.cell? ⟨b, off + k, none⟩ = some (encStr l[k]) := (HU.out.below.cell (p := ⟨b, off + k, none⟩) hbl).trans hat
      have hc := flag_any ⟨l[k].toArray⟩ wr
      rw [flagB_is] at hc
      have hsucc : ((l.take (k + 1)).map flagB).map encStr = ((l.take k).map flagB).map encStr ++ [encStr (flagB l[k])] := by
        rw [List.take_succ_eq_append_getElem hke, List.map_append, List.map_append]
        rfl
      have HSUCC := Lib.hid hsucc
      generalize l[k] = x at d0 hc HSUCC
      generalize flagB x = fb at hc HSUCC
      obtain ⟨⟨h, hs, hf⟩, hbel⟩ := HU.out
      have HS := Lib.hid hs
      have HF := Lib.hid (And.intro hf hbel)
      obtain ⟨A0, cap0, rfl, _, _⟩ := hs.form
      clear hs hf hbel hsucc hat
      go_wp2_with (first
        | (go_at_call 16; refine hc.mono ?_; rintro e w2 ⟨rfl, rfl⟩; clear hc)
        | (at_builtin; refine wpList_append_sl rfl _ _ 71 rfl Try.underlying71 hi hz0 hz1 hz2 rfl (by decide) HS.out rfl 1 1 rfl rfl ?_ ?_ ?_ ?_))
      · rfl
      · unfold maxLen
        omega
      · omega
      · intro v2 h2 w3 hs3 hc3 ho3
        obtain ⟨A2, cap3, rfl, _, _⟩ := hs3.form
        have hsz := HF.out.2.size
        have HU2 : Hid (ListAt w w3 (.slice A2 (k + 1) cap3) l (k + 1)) := Lib.hid (by
          refine ⟨⟨h2, ?_, fun b hb => ?_⟩, HF.out.2.trans (hc3.below hsz fun k hk => HF.out.1 k (by simpa using hk))⟩
          · rw [HSUCC.out]
            first | exact hs3 | (rw [List.map_map, List.map_take]; exact hs3)
          · rcases ho3 with h4 | ⟨g, h4, h5⟩
            · exact HF.out.1 b (h4 ▸ hb)
            · rw [h4] at hb
              injection hb with hb
              omega)
        clear hs3 hc3 ho3
        go_wp2
        refine ⟨?_, by simp [intOf]; omega⟩
        first | exact ⟨k + 1, by omega, by go_num, HU2⟩ | ((repeat apply Exists.intro); exact ⟨⟨k + 1, by omega, by go_num, HU2⟩, rfl⟩)
    · have hkn : k = n := by omega
      subst hkn
      obtain ⟨⟨h, hs, hf⟩, hbel⟩ := HU.out
      rw [List.take_of_length_le (by rw [HN.out]; exact Nat.le_refl _)] at hs
      have hJ : J l k = Lib.join (l.map flagB) [32] := by
        unfold J
        rw [List.take_of_length_le (by rw [HN.out]; exact Nat.le_refl _)]
      have hJl := J_length l H3.out k (by rw [HN.out]; exact Nat.le_refl _)
      have hcall : ∀ v', v' = u3 → Calls Try.prog 56 #[v', .string ⟨#[32]⟩] wr fun e w' => e = .returned (.string ⟨(J l k).toArray⟩) ∧ Below wr.heap.size wr w' := by
        intro v' hv'
        subst hv'
        by_cases hk0 : k = 0
        · subst hk0
          obtain ⟨A0, cap0, hv, _, _⟩ := hs.form
          rw [hv]
          refine (Try.strings_Join_none A0 cap0 ⟨#[32]⟩ wr).mono ?_
          rintro e w' ⟨rfl, rfl⟩
          exact ⟨by rw [J_zero], Below.refl _ _⟩
        · obtain ⟨b, off, cap0, _, hv, hcc, hcm, hbl, hat⟩ := hs.at_ (by omega)
          rw [hv]
          have hx : ((l.map flagB).map fun s => (⟨s.toArray⟩ : ByteArray)).length = k := by rw [List.length_map, List.length_map, HN.out]
          have hy : (((l.map flagB).map fun s => (⟨s.toArray⟩ : ByteArray)).map (·.data.toList)) = l.map flagB := by
            rw [List.map_map]
            conv => rhs; rw [← List.map_id (l.map flagB)]
            rfl
          have hj := Try.strings_Join b off cap0 ((l.map flagB).map fun s => (⟨s.toArray⟩ : ByteArray)) ⟨#[32]⟩ wr (fun j x hjx => by
            have hjl : j < k := by rw [← hx]; exact (List.getElem?_eq_some_iff.1 hjx).1
            rw [(hat j (by omega)).1, List.getElem?_map]
            rw [List.getElem?_map] at hjx
            cases hq : (l.map flagB)[j]? with
            | none => rw [hq] at hjx; cases hjx
            | some y =>
              rw [hq] at hjx
              injection hjx with hjx
              rw [← hjx]
              rfl) hbl (by rw [hx]; omega) (by rw [hx]; exact hcc) (by rw [hy, show (⟨#[32]⟩ : ByteArray).data.toList = [32] from rfl, ← hJ]; omega)
          rw [hx, hy, show (⟨#[32]⟩ : ByteArray).data.toList = [32] from rfl, ← hJ] at hj
          exact hj
      have hc := hcall _ rfl
      have HB := Lib.hid hbel
      have n1 : ¬ 9223372036854775807 < (J l k).length + 1 := by omega
      have n2 : ¬ 9223372036854775807 < 1 + (J l k).length := by omega
      have n3 : ¬ 9223372036854775807 < 1 + (J l k).length + 1 := by omega
      have HJ := Lib.hid hJ
      obtain ⟨A0, cap0, rfl, _, _⟩ := hs.form
      obtain ⟨t, ht⟩ : ∃ t, J l k = t := ⟨_, rfl⟩
      rw [ht] at hc n1 n2 n3
      have HT := Lib.hid ht
      clear hs hf hbel hJ hJl hcall HU ht
      go_wp2_with (first
        | (go_at_call 56; refine hc.mono ?_; rintro e w2 ⟨rfl, hb2⟩; have HB2 := Lib.hid (bthen HB.out hb2); clear hb2 hc)
        | fail)
      go_ret
      refine ⟨ret_str ?_, HB2.out⟩
      have h1 := ByteArray.mk_append_mk [40] t
      have h2 := ByteArray.mk_append_mk (40 :: t) [41]
      rw [HT.out]
      exact (congrArg (· ++ (⟨#[41]⟩ : ByteArray)) h1).trans h2

end Go.Proofs.Ytkgpflobbmagaaa
