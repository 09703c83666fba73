/-
  The walks of flag.Flag and flag.List.
  The walks of the reference's Digits and of text.Digits: the digits of a number; nothing that was there turns.
  The walks of strings.Builder.WriteString and String, of sync/atomic.Int64.Store, of the view's 'say'.
  The library's Delete of one of a view's messages.
  The walk of the view's add.
  The walks of IndexFunc over a mailbox's emails, and of the view's 'find'.
-/
import Derived.Test.YtgkfknbhkonfdaaGreatDoorGB
import Derived.Test.YtgkfknbhkonfdaaGreatDoorGVA
import Derived.Test.YtgkfknbhkonfdaaGreatDoorGD
import Derived.Test.YtgkfknbhkonfdaaGreatDoorGVB
import Derived.Test.YtgkfknbhkonfdaaGreatDoorGM
import Derived.Lib.JoinLaws
import Derived.Test.YtgkfknbhkonfdaaGreatDoorShelf
import Derived.Lib.ItoaLen
import Derived.Deep.RegionWith
import Derived.Deep.DrawnRows
import Derived.Shelf.Strings.BuilderK
import Derived.Lib.AppendIntMem
namespace Go.Proofs.YtgkfknbhkonfdaaGreatDoor
open Go.RowKit Go.Sort
attribute [local go_sem ↓] Go.wp_at_zero Go.wp_at_succ

/-- A keyword's flag. -/
def flagOf (s : ByteArray) : ByteArray :=
  if s = ⟨#[36, 97, 110, 115, 119, 101, 114, 101, 100]⟩ then ⟨#[92, 65, 110, 115, 119, 101, 114, 101, 100]⟩
  else if s = ⟨#[36, 102, 108, 97, 103, 103, 101, 100]⟩ then ⟨#[92, 70, 108, 97, 103, 103, 101, 100]⟩
  else if s = ⟨#[36, 100, 101, 108, 101, 116, 101, 100]⟩ then ⟨#[92, 68, 101, 108, 101, 116, 101, 100]⟩
  else if s = ⟨#[36, 115, 101, 101, 110]⟩ then ⟨#[92, 83, 101, 101, 110]⟩
  else if s = ⟨#[36, 100, 114, 97, 102, 116]⟩ then ⟨#[92, 68, 114, 97, 102, 116]⟩
  else s

set_option maxRecDepth 100000 in
set_option maxHeartbeats 1000000 in
theorem flag_any (s : ByteArray) (w : World) :
    Calls Tryz.prog 117 #[.string s] w fun e w' => e = .returned (.string (flagOf s)) ∧ w = w' := by
  obtain ⟨q, hq⟩ : ∃ q, flagOf s = q := ⟨_, rfl⟩
  rw [hq]
  unfold flagOf at hq
  have HQ := Lib.hid hq
  clear hq
  go_enter Tryz.func117, Tryz.ntmps117
  by_cases c0 : s = ⟨#[36, 97, 110, 115, 119, 101, 114, 101, 100]⟩
  · subst c0
    go_wp2_with fail
    go_ret
    refine ⟨ret_str ?_, rfl⟩
    rw [← HQ.out]
    rfl
  have n0 := ne_toListB s [36, 97, 110, 115, 119, 101, 114, 101, 100] c0
  rw [if_neg c0] at HQ
  clear c0
  by_cases c1 : s = ⟨#[36, 102, 108, 97, 103, 103, 101, 100]⟩
  · subst c1
    go_wp2_with fail
    go_ret
    refine ⟨ret_str ?_, rfl⟩
    rw [← HQ.out]
    rfl
  have n1 := ne_toListB s [36, 102, 108, 97, 103, 103, 101, 100] c1
  rw [if_neg c1] at HQ
  clear c1
  by_cases c2 : s = ⟨#[36, 100, 101, 108, 101, 116, 101, 100]⟩
  · subst c2
    go_wp2_with fail
    go_ret
    refine ⟨ret_str ?_, rfl⟩
    rw [← HQ.out]
    rfl
  have n2 := ne_toListB s [36, 100, 101, 108, 101, 116, 101, 100] c2
  rw [if_neg c2] at HQ
  clear c2
  by_cases c3 : s = ⟨#[36, 115, 101, 101, 110]⟩
  · subst c3
    go_wp2_with fail
    go_ret
    refine ⟨ret_str ?_, rfl⟩
    rw [← HQ.out]
    rfl
  have n3 := ne_toListB s [36, 115, 101, 101, 110] c3
  rw [if_neg c3] at HQ
  clear c3
  by_cases c4 : s = ⟨#[36, 100, 114, 97, 102, 116]⟩
  · subst c4
    go_wp2_with fail
    go_ret
    refine ⟨ret_str ?_, rfl⟩
    rw [← HQ.out]
    rfl
  have n4 := ne_toListB s [36, 100, 114, 97, 102, 116] c4
  rw [if_neg c4] at HQ
  clear c4
  go_wp2_with fail
  go_ret
  exact ⟨ret_str HQ.out, rfl⟩

def flagB (s : List UInt8) : List UInt8 := (flagOf ⟨s.toArray⟩).data.toList
theorem flagB_is (s : List UInt8) : flagOf ⟨s.toArray⟩ = ⟨(flagB s).toArray⟩ := of_dataL _ _ rfl
theorem flagB_length (s : List UInt8) (h : s.length ≤ 300) : (flagB s).length ≤ 300 := by
  unfold flagB flagOf
  repeat' split
  all_goals first | (simp; done) | simpa using h
/-- The flags of the first i, with blanks between. -/
def J (l : Texts) (i : Nat) : List UInt8 := Lib.join ((l.take i).map flagB) [32]
theorem J_zero (l : Texts) : J l 0 = [] := by simp [J, Lib.join_nil]
theorem J_first (l : Texts) (h : 0 < l.length) : J l 1 = flagB l[0] := by
  unfold J
  rw [List.take_succ_eq_append_getElem h]
  simp [Lib.join_one]
theorem J_succ (l : Texts) (i : Nat) (hi : 0 < i) (h : i < l.length) : J l (i + 1) = J l i ++ [32] ++ flagB l[i] := by
  unfold J
  rw [List.take_succ_eq_append_getElem h, List.map_append]
  cases hm : (l.take i).map flagB with
  | nil =>
    have := congrArg List.length hm
    rw [List.length_map, List.length_take, List.length_nil] at this
    omega
  | cons x r =>
    rw [List.cons_append, Lib.join_cons, Lib.join_cons]
    simp [Lib.joinTail]
theorem J_length (l : Texts) (h3 : ∀ s ∈ l, s.length ≤ 300) : ∀ i, i ≤ l.length → (J l i).length ≤ i * 301
  | 0, _ => by simp [J_zero]
  | i + 1, h => by
    have ih := J_length l h3 i (Nat.le_of_succ_le h)
    have h1 := flagB_length l[i] (h3 _ (List.getElem_mem (by omega)))
    by_cases h0 : i = 0
    · subst h0
      rw [J_first l (by omega)]
      exact Nat.le_trans h1 (by omega)
    · rw [J_succ l i (by omega) (by omega)]
      simp only [List.length_append, List.length_cons, List.length_nil]
      omega

structure ListAt (w wr : World) (v : Value) (l : Texts) (c : Nat) : Prop where
  sl : ∃ h, Sl wr 9 1 v h c (((l.take c).map flagB).map encStr) ∧ ∀ b, h = some b → w.heap.size ≤ b
  below : Below w.heap.size w wr

set_option maxRecDepth 100000 in
set_option maxHeartbeats 2000000 in
theorem list_any (w : World) (v : Value) (n : Nat) (l : Texts) (hn : l.length = n) (hnb : n ≤ 100) (hr : RdS w [] 1 v n (l.map encStr)) (h3 : ∀ s ∈ l, s.length ≤ 300) :
    Calls Tryz.prog 55 #[v] w fun e w' => e = .returned (.string ⟨(40 :: J l n ++ [41]).toArray⟩) ∧ Below w.heap.size w w' := by
  obtain ⟨i0, hi, hz0, hz1, hz2⟩ := info_parts Try.infoString
  obtain ⟨A, cap, rfl, _, _⟩ := hr.form
  have HR := Lib.hid hr
  have HN := Lib.hid hn
  have H3 := Lib.hid h3
  clear hr hn h3
  go_enter Tryz.func55, Tryz.ntmps55
  go_wp2
  go_loopw [3, 8] (fun o i wr => ∃ k : Nat, k ≤ n ∧ i = .int .i64 k ∧ Hid (ListAt w wr o l k)) (fun _ i _ => n - (intOf i).toNat)
  case atStart => exact ⟨0, Nat.zero_le _, rfl, Lib.hid ⟨⟨none, Sl.nil _ _ _, fun b hb => by cases hb⟩, Below.refl _ _⟩⟩
  case round =>
    obtain ⟨k, hk, rfl, HU⟩ := hrel
    by_cases hlt : k < n
    · have hke : k < l.length := by rw [HN.out]; exact hlt
      obtain ⟨b, off, cap2, hva, hbl, _, hat⟩ := HR.out.str k hke
      injection hva with hva1 _ hva3
      subst hva1
      subst hva3
      have d0 : wr.cell? ⟨b, off + k, none⟩ = some (encStr l[k]) := (HU.out.below.cell (p := ⟨b, off + k, none⟩) hbl).trans hat
      have hc := flag_any ⟨l[k].toArray⟩ wr
      rw [flagB_is] at hc
      have hsucc : ((l.take (k + 1)).map flagB).map encStr = ((l.take k).map flagB).map encStr ++ [encStr (flagB l[k])] := by
        rw [List.take_succ_eq_append_getElem hke, List.map_append, List.map_append]
        rfl
      have HSUCC := Lib.hid hsucc
      generalize l[k] = x at d0 hc HSUCC
      generalize flagB x = fb at hc HSUCC
      obtain ⟨⟨h, hs, hf⟩, hbel⟩ := HU.out
      have HS := Lib.hid hs
      have HF := Lib.hid (And.intro hf hbel)
      obtain ⟨A0, cap0, rfl, _, _⟩ := hs.form
      clear hs hf hbel hsucc hat
      go_wp2_with (first
        | (go_at_call 117; refine hc.mono ?_; rintro e w2 ⟨rfl, rfl⟩; clear hc)
        | (at_builtin; refine wpList_append_sl rfl _ _ 38 rfl Tryz.underlying38 hi hz0 hz1 hz2 rfl (by decide) HS.out rfl 1 1 rfl rfl ?_ ?_ ?_ ?_))
      · rfl
      · unfold maxLen
        omega
      · omega
      · intro v2 h2 w3 hs3 hc3 ho3
        obtain ⟨A2, cap3, rfl, _, _⟩ := hs3.form
        have hsz := HF.out.2.size
        have HU2 : Hid (ListAt w w3 (.slice A2 (k + 1) cap3) l (k + 1)) := Lib.hid (by
          refine ⟨⟨h2, ?_, fun b hb => ?_⟩, HF.out.2.trans (hc3.below hsz fun k hk => HF.out.1 k (by simpa using hk))⟩
          · rw [HSUCC.out]
            first | exact hs3 | (rw [List.map_map, List.map_take]; exact hs3)
          · rcases ho3 with h4 | ⟨g, h4, h5⟩
            · exact HF.out.1 b (h4 ▸ hb)
            · rw [h4] at hb
              injection hb with hb
              omega)
        clear hs3 hc3 ho3
        go_wp2
        refine ⟨?_, by simp [intOf]; omega⟩
        first | exact ⟨k + 1, by omega, by go_num, HU2⟩ | ((repeat apply Exists.intro); exact ⟨⟨k + 1, by omega, by go_num, HU2⟩, rfl⟩)
    · have hkn : k = n := by omega
      subst hkn
      obtain ⟨⟨h, hs, hf⟩, hbel⟩ := HU.out
      rw [List.take_of_length_le (by rw [HN.out]; exact Nat.le_refl _)] at hs
      have hJ : J l k = Lib.join (l.map flagB) [32] := by
        unfold J
        rw [List.take_of_length_le (by rw [HN.out]; exact Nat.le_refl _)]
      have hJl := J_length l H3.out k (by rw [HN.out]; exact Nat.le_refl _)
      have hcall : ∀ v', v' = u3 → Calls Tryz.prog 48 #[v', .string ⟨#[32]⟩] wr fun e w' => e = .returned (.string ⟨(J l k).toArray⟩) ∧ Below wr.heap.size wr w' := by
        intro v' hv'
        subst hv'
        by_cases hk0 : k = 0
        · subst hk0
          obtain ⟨A0, cap0, hv, _, _⟩ := hs.form
          rw [hv]
          refine (Tryz.strings_Join_none A0 cap0 ⟨#[32]⟩ wr).mono ?_
          rintro e w' ⟨rfl, rfl⟩
          exact ⟨by rw [J_zero], Below.refl _ _⟩
        · obtain ⟨b, off, cap0, _, hv, hcc, hcm, hbl, hat⟩ := hs.at_ (by omega)
          rw [hv]
          have hx : ((l.map flagB).map fun s => (⟨s.toArray⟩ : ByteArray)).length = k := by rw [List.length_map, List.length_map, HN.out]
          have hy : (((l.map flagB).map fun s => (⟨s.toArray⟩ : ByteArray)).map (·.data.toList)) = l.map flagB := by
            rw [List.map_map]
            conv => rhs; rw [← List.map_id (l.map flagB)]
            rfl
          have hj := Tryz.strings_Join b off cap0 ((l.map flagB).map fun s => (⟨s.toArray⟩ : ByteArray)) ⟨#[32]⟩ wr (fun j x hjx => by
            have hjl : j < k := by rw [← hx]; exact (List.getElem?_eq_some_iff.1 hjx).1
            rw [(hat j (by omega)).1, List.getElem?_map]
            rw [List.getElem?_map] at hjx
            cases hq : (l.map flagB)[j]? with
            | none => rw [hq] at hjx; cases hjx
            | some y =>
              rw [hq] at hjx
              injection hjx with hjx
              rw [← hjx]
              rfl) hbl (by rw [hx]; omega) (by rw [hx]; exact hcc) (by rw [hy, show (⟨#[32]⟩ : ByteArray).data.toList = [32] from rfl, ← hJ]; omega)
          rw [hx, hy, show (⟨#[32]⟩ : ByteArray).data.toList = [32] from rfl, ← hJ] at hj
          exact hj
      have hc := hcall _ rfl
      have HB := Lib.hid hbel
      have n1 : ¬ 9223372036854775807 < (J l k).length + 1 := by omega
      have n2 : ¬ 9223372036854775807 < 1 + (J l k).length := by omega
      have n3 : ¬ 9223372036854775807 < 1 + (J l k).length + 1 := by omega
      have HJ := Lib.hid hJ
      obtain ⟨A0, cap0, rfl, _, _⟩ := hs.form
      obtain ⟨t, ht⟩ : ∃ t, J l k = t := ⟨_, rfl⟩
      rw [ht] at hc n1 n2 n3
      have HT := Lib.hid ht
      clear hs hf hbel hJ hJl hcall HU ht
      go_wp2_with (first
        | (go_at_call 48; refine hc.mono ?_; rintro e w2 ⟨rfl, hb2⟩; have HB2 := Lib.hid (bthen HB.out hb2); clear hb2 hc)
        | fail)
      go_ret
      refine ⟨ret_str ?_, HB2.out⟩
      have h1 := ByteArray.mk_append_mk [40] t
      have h2 := ByteArray.mk_append_mk (40 :: t) [41]
      rw [HT.out]
      exact (congrArg (· ++ (⟨#[41]⟩ : ByteArray)) h1).trans h2

end Go.Proofs.YtgkfknbhkonfdaaGreatDoor

namespace Go.Proofs.YtgkfknbhkonfdaaGreatDoor
open Go.RowKit Go.Lib
attribute [local go_sem ↓] Go.wp_at_zero Go.wp_at_succ

theorem run_max_int {P : Program} (ats : Array TypeId) (ty : TypeId) (a b : Int) (w : World) : (Builtin.max_ ats ty #[.int .i64 a, .int .i64 b]).run P w = .ok (.int .i64 (if a < b then b else a)) w := by
  simp [Builtin.max_, Builtin.max2]

theorem dig_conv (c : Nat) (hc : c < 10) (w : World) (g : Nat) (hB : Blk w g 5 #[.int .u8 (48 + (c : Int))]) :
    Sem.run Tryz.prog (convert 100 9 (.slice (some ⟨g, 0, none⟩) 1 1)) w = .ok (.string ⟨[UInt8.ofNat (48 + c)].toArray⟩) w := by
  refine run_string_row Tryz.underlying100 Tryz.underlying5 (l := [UInt8.ofNat (48 + c)]) (fun j hj => ?_) 1 rfl 9 Tryz.underlying9
  refine ⟨?_, hB.frozen j⟩
  rw [hB.cell j]
  match j, hj with
  | 0, _ => simp; omega

theorem decDigits_more (k : Nat) (h : 10 ≤ k) : decDigits k = decDigits (k / 10) ++ [UInt8.ofNat (48 + k % 10)] := by
  rw [decDigits, dif_neg (by omega)]
theorem digL_le (n : Int) (h : n ≤ 9223372036854775807) : (digL n).length ≤ 21 := by
  by_cases h0 : 0 ≤ n
  · have := itoa_length_le n (by omega) h
    obtain ⟨k, rfl⟩ : ∃ k : Nat, n = k := ⟨n.toNat, by omega⟩
    rw [itoa_nonneg] at this
    exact this
  · have e : n.toNat = 0 := by omega
    unfold digL
    rw [e, decDigits_one (by omega)]
    simp

set_option maxRecDepth 100000 in
set_option maxHeartbeats 1000000 in
theorem refDigits_small (n : Int) (h : n < 10) (w : World) :
    Calls Tryz.prog 22 #[.int .i64 n] w fun e w' => e = .returned (.string ⟨(digL n).toArray⟩) ∧ Below w.heap.size w w' := by
  obtain ⟨c, hc⟩ : ∃ c : Nat, (if n < 0 then 0 else n) = (c : Int) := ⟨n.toNat, by omega⟩
  have hc2 : n.toNat = c ∧ c < 10 := by omega
  have hd : digL n = [UInt8.ofNat (48 + c)] := by
    unfold digL
    rw [hc2.1, decDigits_one hc2.2]
  rw [hd]
  have hmx := fun ats ty W => run_max_int (P := Tryz.prog) ats ty n 0 W
  rw [hc] at hmx
  have hcv := dig_conv c hc2.2 _ _ (Blk.new w 5 #[.int .u8 (48 + (c : Int))])
  have hc9 : (c : Int) ≤ 9 := by omega
  generalize UInt8.ofNat (48 + c) = x at hcv
  clear hd hc hc2
  go_enter Tryz.func22, Tryz.ntmps22
  go_wp2
  go_ret
  exact ⟨rfl, (Below.refl _ _).alloc (Nat.le_refl _) _⟩

set_option maxRecDepth 100000 in
set_option maxHeartbeats 2000000 in
theorem refDigits_nat (k : Nat) : k ≤ 9223372036854775807 → ∀ w : World,
    Calls Tryz.prog 22 #[.int .i64 k] w fun e w' => e = .returned (.string ⟨(decDigits k).toArray⟩) ∧ Below w.heap.size w w' := by
  induction k using Nat.strongRecOn with
  | _ k ih =>
    intro hk w
    by_cases hs : k < 10
    · exact refDigits_small k (by omega) w
    · have hih := ih (k / 10) (by omega) (by omega)
      have hlen : (decDigits (k / 10)).length ≤ 21 := digL_le ((k / 10 : Nat) : Int) (by omega)
      rw [decDigits_more k (by omega)]
      generalize decDigits (k / 10) = D at hih hlen
      have hq : ((k / 10 : Nat) : Int) = (k : Int) / 10 := by omega
      have hr : ((k % 10 : Nat) : Int) = (k : Int) % 10 := by omega
      rw [hq] at hih
      have hcv1 := fun W g hB => dig_conv (k % 10) (by omega) W g hB
      rw [hr] at hcv1
      generalize UInt8.ofNat (48 + k % 10) = c at hcv1
      have HCV := Lib.hid hcv1
      have hnl : ¬ 9223372036854775807 < D.length + [c].length := by simp; omega
      have hge : (10 : Int) ≤ (k : Int) := by omega
      have hk2 : (k : Int) ≤ 9223372036854775807 := by omega
      have m1 : IntKind.i64.wrap ((k : Int) / 10) = (k : Int) / 10 := IntWalk.i64_in _ (by omega)
      have m2 : (k : Int).tmod 10 = (k : Int) % 10 := Int.tmod_eq_emod_of_nonneg (by omega)
      have m3 : IntKind.i64.wrap (48 + (k : Int) % 10) = 48 + (k : Int) % 10 := IntWalk.i64_in _ (by omega)
      have m4 : IntKind.u8.wrap (48 + (k : Int) % 10) = 48 + (k : Int) % 10 := IntWalk.u8_in _ (by omega)
      clear ih hq hr hcv1 hs
      go_enter Tryz.func22, Tryz.ntmps22
      go_wp2_with fail
      have h2 : ∀ w2, Below w.drew.heap.size w.drew w2 → Below w.heap.size w w2 := fun w2 h => ⟨h.os, h.tape, h.output, h.size, h.block⟩
      have h3 : ∀ w2, Below (w.alloc (.cells #[.int .u8 (48 + (k : Int) % 10)] 5)).drew.heap.size (w.alloc (.cells #[.int .u8 (48 + (k : Int) % 10)] 5)).drew w2 → Below (w.heap.size + 1) (w.alloc (.cells #[.int .u8 (48 + (k : Int) % 10)] 5)) w2 := fun w2 h => ⟨h.os, h.tape, h.output, h.size, fun i hi => h.block i (by simpa using hi)⟩
      have hcv0 := HCV.out (w.alloc (.cells #[.int .u8 (48 + (k : Int) % 10)] 5)).drew w.heap.size ((Blk.new w 5 #[.int .u8 (48 + (k : Int) % 10)]).heap (by rfl))
      go_region_with (first
        | (go_at_call 22; (with_reducible refine (hih w.drew).mono ?_); rintro e w2 ⟨rfl, hb⟩; have hcv := HCV.out _ _ (Blk.new w2 5 #[.int .u8 (48 + (k : Int) % 10)]); have HB := Lib.hid (h2 w2 hb); clear hb)
        | (go_at_call 22; (with_reducible refine (hih (w.alloc (.cells #[.int .u8 (48 + (k : Int) % 10)] 5)).drew).mono ?_); rintro e w2 ⟨rfl, hb⟩; have hcv := HCV.out w2 w.heap.size ((Blk.new w 5 #[.int .u8 (48 + (k : Int) % 10)]).below (h3 w2 hb) (by simp)); have HB := Lib.hid (((Below.refl w.heap.size w).alloc (Nat.le_refl _) (.cells #[.int .u8 (48 + (k : Int) % 10)] 5)).trans ((h3 w2 hb).mono (by simp))); clear hb)
        | fail)
      all_goals
        go_wp2
        go_ret
        have he : (ByteArray.mk D.toArray) ++ (ByteArray.mk #[c]) = ByteArray.mk (D ++ [c]).toArray := ByteArray.mk_append_mk D [c]
        exact ⟨ret_str he, by first | exact HB.out | exact HB.out.alloc HB.out.size _⟩

theorem refDigits_any (n : Int) (h : n ≤ 9223372036854775807) (w : World) :
    Calls Tryz.prog 22 #[.int .i64 n] w fun e w' => e = .returned (.string ⟨(digL n).toArray⟩) ∧ Below w.heap.size w w' := by
  by_cases hs : n < 10
  · exact refDigits_small n hs w
  · obtain ⟨k, rfl⟩ : ∃ k : Nat, n = k := ⟨n.toNat, by omega⟩
    exact refDigits_nat k (by omega) w

theorem below_grow (w : World) (q : Nat) (os : Array Obj) : Below w.heap.size w (Sort.grow (w.drewN q) os) := by
  refine ⟨rfl, rfl, rfl, by simp [Sort.grow], fun k hk => ?_⟩
  exact Sort.heap_grow_old _ _ (by simpa using hk)

set_option maxRecDepth 100000 in
theorem digits_any (n : Int) (h : n ≤ 9223372036854775807) (w : World) (ht : Lib.TabIs Tryz.prog w "internal/strconv.uint64pow10" .u64 Lib.pow10Tab) :
    Calls Tryz.prog 47 #[.int .i64 n] w fun e w' => e = .returned (.string ⟨(digL n).toArray⟩) ∧ Below w.heap.size w w' := by
  obtain ⟨c, hc⟩ : ∃ c : Nat, (if n < 0 then 0 else n) = (c : Int) := ⟨n.toNat, by omega⟩
  have hc2 : n.toNat = c := by omega
  have hmx := fun ats ty W => run_max_int (P := Tryz.prog) ats ty n 0 W
  rw [hc] at hmx
  have hit := Tryz.strconv_Itoa (c : Int) (by omega) (by omega) w ht
  rw [itoa_nonneg] at hit
  unfold digL
  rw [hc2]
  clear hc hc2 ht
  go_enter Tryz.func47, Tryz.ntmps47
  go_wp2_with (first
    | (go_at_call 113; refine hit.mono ?_; rintro e w2 ⟨rfl, q, os, rfl⟩; clear hit)
    | fail)
  go_ret
  exact ⟨rfl, below_grow _ _ _⟩

end Go.Proofs.YtgkfknbhkonfdaaGreatDoor

namespace Go.Proofs.YtgkfknbhkonfdaaGreatDoor
open Go.Shelf Go.RowKit Go.Lib
attribute [local go_sem ↓] Go.wp_at_zero Go.wp_at_succ

def BldAt (w : World) (B b : Nat) (t : Text) : Prop := Lib.IsBuilderF 102 5 B b (Lib.byteCells t) w
theorem write_any (B b : Nat) (t s : Text) (w : World) (h : BldAt w B b t) (hlen : t.length + s.length ≤ 140737488355328) (hBw : B ≤ w.heap.size) :
    Calls Tryz.prog 46 #[.pointer (some ⟨b, 0, none⟩), .string ⟨s.toArray⟩] w fun e w' => e = .returned (.tuple #[.int .i64 s.length, .nilIface]) ∧ BldAt w' B b (t ++ s) ∧ Below B w w' ∧ Lib.OthersKept 5 (some b) w w' := by
  have hsz : (⟨s.toArray⟩ : ByteArray).size = s.length := by simp [ByteArray.size]
  have h1 := Any.Builder_WriteString_k { Tryz.lays156 with } Tryz.Builder_Extra_156 B b (Lib.byteCells t) ⟨s.toArray⟩ w h (by rw [hsz]; simpa [Lib.byteCells] using hlen) hBw
  refine h1.mono ?_
  rintro e w' ⟨rfl, k1, k2, k3⟩
  rw [hsz]
  refine ⟨rfl, .inr ?_, k2, k3⟩
  have e1 : Lib.byteCells (t ++ s) = Lib.byteCells t ++ Lib.strCells ⟨s.toArray⟩ := by simp [Lib.byteCells, Lib.strCells]
  rw [e1]
  exact k1
theorem build_any (B b : Nat) (t : Text) (w : World) (h : BldAt w B b t) (hBw : B ≤ w.heap.size) :
    Calls Tryz.prog 56 #[.pointer (some ⟨b, 0, none⟩)] w fun e w' => e = .returned (.string ⟨t.toArray⟩) ∧ Below B w w' ∧ Lib.OthersKept 5 (some b) w w' := by
  refine (Tryz.Builder_String_any_k B b t w h hBw).mono ?_
  rintro e w' ⟨rfl, _, k1, k2⟩
  exact ⟨rfl, k1, k2⟩
theorem bld_new (w : World) : BldAt (w.alloc (.cells #[.pointer none, .slice none 0 0] 102)) w.heap.size w.heap.size [] := .of (Lib.fresh_isBuilder _ _ w)

/-- What a builder's writes leave alone. -/
def EV (t : TypeId) : Prop := t ≠ 5 ∧ t ≠ 102
theorem BldAt.blk {w : World} {B b : Nat} {t : Text} (h : BldAt w B b t) : ∃ cs, Blk w b 102 cs := by
  rcases h with ⟨_, v, hb, _⟩ | ⟨_, v, hb, _⟩ <;> exact ⟨_, hb⟩
theorem BldAt.keep {w w' : World} {B b : Nat} {t : Text} (h : BldAt w B b t) (hk : ∀ (k : Nat) (cs : Array Value) (fz : Nat × Nat) (u : TypeId), (u = 5 ∨ u = 102) → w.heap[k]? = some (Obj.cells cs u fz) → w'.heap[k]? = w.heap[k]?) : BldAt w' B b t := by
  have h1 : ∀ p, Lib.BuilderAtF 102 5 B b p (Lib.byteCells t) w → Lib.BuilderAtF 102 5 B b p (Lib.byteCells t) w' := by
    rintro p ⟨k1, v, k2, k3, k4⟩
    refine ⟨k1, v, (hk b _ _ _ (.inr rfl) k2).trans k2, ⟨k3.1, ?_⟩, k4⟩
    rcases k3.2 with h0 | ⟨g, cap, cur, fz, hv, hg1, hg2, rest⟩
    · exact .inl h0
    · exact .inr ⟨g, cap, cur, fz, hv, hg1, (hk g _ _ _ (.inl rfl) hg2).trans hg2, rest⟩
  rcases h with h | h
  · exact .inl (h1 _ h)
  · exact .inr (h1 _ h)
theorem BldAt.later {w w' : World} {B b : Nat} {t : Text} (h : BldAt w B b t) (hb : Below w.heap.size w w') : BldAt w' B b t :=
  h.keep fun k _ _ _ _ hk => hb.block k (Array.getElem?_eq_some_iff.1 hk).1
theorem BldAt.chg {w w' : World} {B b : Nat} {t : Text} {S : List Nat} (h : BldAt w B b t) (hc : Chg S w w') (hS : ∀ k ∈ S, ∃ u cs, Blk w k u cs ∧ VTy u) : BldAt w' B b t :=
  h.keep fun k cs fz u hu hk => hc.block k (Array.getElem?_eq_some_iff.1 hk).1 fun hm => by
    obtain ⟨u', cs', hB, hT⟩ := hS k hm
    have h1 := hk.symm.trans hB
    simp only [Option.some.injEq, Obj.cells.injEq] at h1
    obtain ⟨_, rfl, _⟩ := h1
    unfold VTy at hT
    rcases hu with rfl | rfl
    · revert hT; decide
    · revert hT; decide

abbrev TensV (w : World) : Prop := Lib.TabIs Tryz.prog w "internal/strconv.uint64pow10" .u64 Lib.pow10Tab
theorem TensV.later {w w' : World} (h : TensV w) (hb : Below w.heap.size w w') : TensV w' := (tabBelow_of_tabIs h) w' hb

theorem joinW_any (w : World) (v : Value) (n : Nat) (ws : List Text) (hn : ws.length = n) (hn0 : 0 < n) (hnb : n ≤ 100) (hr : RdS w [] 1 v n (ws.map encStr)) (hl : (Lib.join ws [32]).length ≤ 1099511627776) :
    Calls Tryz.prog 48 #[v, .string ⟨#[32]⟩] w fun e w' => e = .returned (.string ⟨(Lib.join ws [32]).toArray⟩) ∧ Below w.heap.size w w' := by
  obtain ⟨b, off, cap0, rfl, hcc, hcm, hbl, _, hat⟩ := hr.at_ hn0
  have hx : (ws.map fun s => (⟨s.toArray⟩ : ByteArray)).length = n := by rw [List.length_map, hn]
  have hy : ((ws.map fun s => (⟨s.toArray⟩ : ByteArray)).map (·.data.toList)) = ws := by
    rw [List.map_map]
    conv => rhs; rw [← List.map_id ws]
    rfl
  have hj := Tryz.strings_Join b off cap0 (ws.map fun s => (⟨s.toArray⟩ : ByteArray)) ⟨#[32]⟩ w (fun j x hjx => by
    have hjl : j < n := by rw [← hx]; exact (List.getElem?_eq_some_iff.1 hjx).1
    rw [hat j (by omega), List.getElem?_map]
    rw [List.getElem?_map] at hjx
    cases hq : ws[j]? with
    | none => rw [hq] at hjx; cases hjx
    | some y =>
      rw [hq] at hjx
      injection hjx with hjx
      rw [← hjx]
      rfl) hbl (by rw [hx]; omega) (by rw [hx]; exact hcc) (by rw [hy, show (⟨#[32]⟩ : ByteArray).data.toList = [32] from rfl]; omega)
  rw [hx, hy, show (⟨#[32]⟩ : ByteArray).data.toList = [32] from rfl] at hj
  exact hj

set_option maxRecDepth 100000 in
set_option maxHeartbeats 2000000 in
theorem say_any (w : World) (at_ : Int) (hat : at_ ≤ 9223372036854775807) (v : Value) (n : Nat) (ws : List Text) (hn : ws.length = n) (hn0 : 0 < n) (hnb : n ≤ 100) (hr : RdS w [] 1 v n (ws.map encStr)) (B b : Nat) (t : Text) (hb : BldAt w B b t) (hBw : B ≤ w.heap.size) (hlt : t.length ≤ 1099511627776) (hl : (Lib.join ws [32]).length ≤ 1099511627776) (ht : TensV w) :
    Calls Tryz.prog 45 #[.int .i64 at_, v, .pointer (some ⟨b, 0, none⟩)] w fun e w' => e = .returned (.tuple #[]) ∧ BldAt w' B b (t ++ sayT at_ (Lib.join ws [32])) ∧ Below B w w' ∧ TKeep EV w w' := by
  have hd := digits_any at_ hat w ht
  have hdl : (digL at_).length ≤ 21 := digL_le at_ hat
  have hj := fun W (h : Below w.heap.size w W) => joinW_any W v n ws hn hn0 hnb (hr.below h) hl
  have hsay : sayT at_ (Lib.join ws [32]) = [42, 32] ++ digL at_ ++ [32] ++ Lib.join ws [32] ++ [13, 10] := rfl
  have hw := fun W (h : Below w.heap.size w W) (s : Text) (hs : s.length ≤ 1099511627776 + 100) => write_any B b t s W (hb.later h) (by omega) (Nat.le_trans hBw h.size)
  obtain ⟨cs, hcs⟩ := hb.blk
  obtain ⟨A, cap, rfl, _, _⟩ := hr.form
  rw [hsay]
  obtain ⟨D, hD⟩ : ∃ D, digL at_ = D := ⟨_, rfl⟩
  obtain ⟨J, hJ⟩ : ∃ J, Lib.join ws [32] = J := ⟨_, rfl⟩
  rw [hD] at hd hdl ⊢
  rw [hJ] at hj hl ⊢
  have HJ := Lib.hid hj
  have HW := Lib.hid hw
  have HCS := Lib.hid hcs
  have n1 : ¬ 9223372036854775807 < 2 + D.length := by omega
  have n2 : ¬ 9223372036854775807 < 2 + D.length + 1 := by omega
  have n3 : ¬ 9223372036854775807 < 2 + D.length + 1 + J.length := by omega
  have n4 : ¬ 9223372036854775807 < 2 + D.length + 1 + J.length + 2 := by omega
  have hap : ∀ a b : List UInt8, ByteArray.mk a.toArray ++ ByteArray.mk b.toArray = ByteArray.mk (a ++ b).toArray := fun a b => ByteArray.mk_append_mk a b
  have HL := Lib.hid (And.intro hl hdl)
  have HBW := Lib.hid hBw
  clear hj hw hcs hb hr hn hn0 hnb hsay hD hJ hl hdl ht hlt hBw hat
  go_enter Tryz.func45, Tryz.ntmps45
  go_wp2_with (first
    | (go_at_call 47; refine hd.mono ?_; rintro e w1 ⟨rfl, hb1⟩; have hj1 := HJ.out w1 hb1; have HB1 := Lib.hid hb1; clear hd hb1)
    | (go_at_call 48; refine hj1.mono ?_; rintro e w2 ⟨rfl, hb2⟩; have HB2 := Lib.hid (below_then HB1.out hb2); clear hj1 hb2)
    | (go_at_call 46; refine (HW.out w2 HB2.out (42 :: 32 :: (D ++ 32 :: (J ++ [13, 10]))) (by have := HL.out; simp; omega)).mono ?_; rintro e w3 ⟨rfl, k1, k2, k3⟩; have K1 := Lib.hid k1; have K2 := Lib.hid k2; have K3 := Lib.hid k3; clear k1 k2 k3)
    | fail)
  go_end0
  have hB2 := HB2.out
  refine ⟨rfl, ?_, (hB2.mono HBW.out).trans K2.out, (TKeep.of_below hB2).trans (TKeep.others K3.out (HCS.out.below hB2 HCS.out.lt) K2.out.size (fun h => h.1 rfl) (fun h => h.2 rfl))⟩
  have h9 := K1.out
  have e9 : t ++ (42 :: 32 :: (D ++ 32 :: (J ++ [13, 10]))) = t ++ ([42, 32] ++ D ++ [32] ++ J ++ [13, 10]) := by simp
  rw [e9] at h9
  exact h9

end Go.Proofs.YtgkfknbhkonfdaaGreatDoor

namespace Go.Proofs.YtgkfknbhkonfdaaGreatDoor
open Go.Shelf Go.RowKit
attribute [local go_sem ↓] Go.wp_at_zero Go.wp_at_succ

theorem Try.infoMsg : (Tryz.prog.info? 96).map (fun i => (i.zero, i.size, i.bytes)) = some (some (.agg #[.int .i64 0, .int .i64 0, .pointer none]), 3, 24) := by kernel_rfl

set_option maxRecDepth 100000 in
set_option maxHeartbeats 4000000 in
theorem delV_any (w : World) (v : Value) (h : Option Nat) (n : Nat) (xs : List Value) (hs : Sl w 96 3 v h n xs) (h1 : ∀ u ∈ xs, u.oneCell' = true) (hn : n ≤ 1099511627776) (i : Nat) (hi : i < n) :
    Calls Tryz.prog 52 #[v, .int .i64 i, .int .i64 ((i : Int) + 1)] w fun e w' => ∃ v', e = .returned v' ∧ Sl w' 96 3 v' h (n - 1) (xs.take (i * 3) ++ xs.drop ((i + 1) * 3)) ∧ Chg h.toList w w' := by
  obtain ⟨i0, hi0, hz0, hz1, hz2⟩ := info_parts Try.infoMsg
  have hxl := hs.1
  rcases hs.2 with ⟨_, _, h0⟩ | ⟨b, off, cap, cur, rfl, rfl, hB, hnc, hcm, hcs, htake⟩
  · omega
  have hcell : ∀ j, j < n * 3 → w.cell? ⟨b, off + j, none⟩ = xs[j]? := fun j hj => by
    rw [hB.cell, ← htake, List.getElem?_take, if_pos hj, List.getElem?_drop, Array.getElem?_toList]
  obtain ⟨news, hnews⟩ : ∃ news, news = xs.drop ((i + 1) * 3) := ⟨_, rfl⟩
  have hlen : news.length = (n - (i + 1)) * 3 := by
    rw [hnews, List.length_drop, hxl]
    omega
  have hw1 : IntKind.i64.wrap ((i : Int) + 1) = (i : Int) + 1 := IntWalk.i64_in _ (by omega)
  have q1 : (0 : Int) ≤ (i : Int) := by omega
  have q2 : (i : Int) ≤ (i : Int) + 1 := by omega
  have q3 : (i : Int) + 1 ≤ (n : Int) := by omega
  have q6 : (0 : Int) ≤ (i : Int) + 1 := by omega
  have q4 : (n : Int) ≤ (cap : Int) := by omega
  have q5 : ((i : Int) == (i : Int) + 1) = false := by simpa using (show ¬ (i : Int) = (i : Int) + 1 by omega)
  have hic : i ≤ cap := by omega
  have hjc : i + 1 ≤ cap := by omega
  clear hs
  obtain ⟨A, hA, hsrc⟩ : ∃ A : Addr, (if cap = i + 1 then (some (⟨b, off, none⟩ : Addr)) else some ⟨b, off + (i + 1) * 3, none⟩) = some A ∧ Hid (∀ t u, news[t]? = some u → w.drew.cell? (A.add t) = some u) := by
    by_cases h : cap = i + 1
    · refine ⟨⟨b, off, none⟩, by simp [h], Lib.hid (fun t u hu => ?_)⟩
      have h0 : news.length = 0 := by
        rw [hlen, show n - (i + 1) = 0 by omega, Nat.zero_mul]
      rw [List.length_eq_zero_iff.1 h0] at hu
      simp at hu
    · refine ⟨⟨b, off + (i + 1) * 3, none⟩, by simp [h], Lib.hid (fun t u hu => ?_)⟩
      have ht : t < (n - (i + 1)) * 3 := by
        have := (List.getElem?_eq_some_iff.1 hu).1
        rwa [hlen] at this
      rw [hnews, List.getElem?_drop] at hu
      rw [Addr.add_lit, show off + (i + 1) * 3 + t = off + ((i + 1) * 3 + t) by omega]
      exact (hcell ((i + 1) * 3 + t) (by omega)).trans hu
  have s1 := Lib.hid hlen
  have s2 : Hid (∀ u ∈ news, u.oneCell' = true) := Lib.hid (fun u hu => by
    rw [hnews] at hu
    exact h1 u (List.mem_of_mem_drop hu))
  have s3 : Hid (∀ t, t < news.length → (w.drew.cell? ⟨b, off + i * 3 + t, none⟩).isSome = true ∧ w.drew.frozen? ⟨b, off + i * 3 + t, none⟩ = false) := Lib.hid (fun t ht => by
    rw [hlen] at ht
    refine ⟨?_, hB.frozen _⟩
    show (w.cell? _).isSome = true
    rw [Nat.add_assoc, hcell (i * 3 + t) (by omega), List.getElem?_eq_getElem (by omega)]
    rfl)
  obtain ⟨W1, hW1⟩ : ∃ W1, W1 = w.drew.setCells b (off + i * 3) news := ⟨_, rfl⟩
  have hB1 : Blk W1 b 96 (cur.toList.take (off + i * 3) ++ news ++ cur.toList.drop (off + i * 3 + news.length)).toArray := by
    rw [hW1]
    exact heap_setCells b 96 news (off + i * 3) w.drew cur (hB.heap (w' := w.drew) rfl) (by omega)
  obtain ⟨u1, u2, u3, u4⟩ := setCells_same b news (off + i * 3) w.drew
  rw [← hW1] at u1 u2 u3 u4
  have hC1 : Chg [b] w W1 := ⟨u1, u2, u3, Nat.le_of_eq u4.symm, fun j _ hj => by
    rw [hW1]
    exact setCells_far b news _ w.drew j (by simpa using hj)⟩
  have hs1 : (cur.toList.take (off + i * 3) ++ news ++ cur.toList.drop (off + i * 3 + news.length)).length = cur.size := by
    simp only [List.length_append, List.length_take, List.length_drop, Array.length_toList]
    omega
  obtain ⟨cu1, hcu1⟩ : ∃ cu1, cu1 = cur.toList.take (off + i * 3) ++ news ++ cur.toList.drop (off + i * 3 + news.length) := ⟨_, rfl⟩
  rw [← hcu1] at hB1 hs1
  have e1 : i + (n - (i + 1)) = n - 1 := by omega
  have hcl : ∀ ty, (Builtin.clear_ #[83] ty #[.slice (some ⟨b, off + (i + (n - (i + 1))) * 3, none⟩) (n - (i + (n - (i + 1)))) (cap - (i + (n - (i + 1))))]).run Tryz.prog W1 = .ok (.tuple #[]) (W1.setCells b (off + (n - 1) * 3) [.int .i64 0, .int .i64 0, .pointer none]) := fun ty => by
    rw [e1, show n - (n - 1) = 1 by omega]
    exact run_clear_one W1 _ 96 ty (.agg #[.int .i64 0, .int .i64 0, .pointer none]) [.int .i64 0, .int .i64 0, .pointer none] Tryz.underlying83 (fun W => by first | rfl | kernel_rfl) rfl (by simp [Value.oneCell']) b (off + (n - 1) * 3) _ (fun j hj => by
      have hj2 : j < 3 := hj
      rw [hB1.cell]
      rw [List.getElem?_toArray, List.getElem?_eq_getElem (by omega)]
      rfl) (fun j hj => hB1.frozen _)
  have hfin : Sl (W1.setCells b (off + (n - 1) * 3) [.int .i64 0, .int .i64 0, .pointer none]) 96 3 (.slice (some ⟨b, off, none⟩) (i + (n - (i + 1))) cap) (some b) (n - 1) (xs.take (i * 3) ++ news) := by
    have hB2 := heap_setCells b 96 [.int .i64 0, .int .i64 0, .pointer none] (off + (n - 1) * 3) W1 cu1.toArray hB1 (by simp; omega)
    rw [e1]
    refine ⟨by rw [List.length_append, List.length_take, hlen]; omega, .inr ⟨b, off, cap, _, rfl, rfl, hB2, by omega, hcm, ?_, ?_⟩⟩
    · simp only [List.size_toArray, List.length_append, List.length_take, List.length_drop, List.length_cons, List.length_nil, hs1]
      omega
    · have hl1 : (cu1.take (off + (n - 1) * 3)).length = off + (n - 1) * 3 := by
        rw [List.length_take, hs1]
        omega
      show (List.drop off (cu1.take (off + (n - 1) * 3) ++ [.int .i64 0, .int .i64 0, .pointer none] ++ _)).take ((n - 1) * 3) = xs.take (i * 3) ++ news
      rw [List.append_assoc, List.drop_append_of_le_length (by omega), List.take_append_of_le_length (by rw [List.length_drop, hl1]; omega), List.drop_take, Nat.add_sub_cancel_left, List.take_take, Nat.min_self, hcu1]
      have hl0 : (cur.toList.take (off + i * 3)).length = off + i * 3 := by
        rw [List.length_take, Array.length_toList]
        omega
      rw [List.append_assoc, List.drop_append_of_le_length (by omega), List.drop_take, Nat.add_sub_cancel_left, ← List.append_assoc]
      rw [List.take_append_of_le_length (by rw [List.length_append, List.length_take, List.length_drop, Array.length_toList, hlen]; omega)]
      rw [← htake, List.take_take, Nat.min_eq_left (by omega)]
      exact List.take_of_length_le (by rw [List.length_append, List.length_take, List.length_drop, Array.length_toList, hlen]; omega)
  obtain ⟨y1, y2, y3, y4⟩ := setCells_same b [.int .i64 0, .int .i64 0, .pointer none] (off + (n - 1) * 3) W1
  have hC2 : Chg [b] w (W1.setCells b (off + (n - 1) * 3) [.int .i64 0, .int .i64 0, .pointer none]) := ⟨y1.trans u1, y2.trans u2, y3.trans u3, by rw [y4, u4]; exact Nat.le_refl _, fun j hj hjn => (setCells_far b _ _ W1 j (by simpa using hjn)).trans (hC1.block j hj hjn)⟩
  have HFIN := Lib.hid hfin
  have HC2 := Lib.hid hC2
  have HNEWS := Lib.hid hnews
  have HW1 := Lib.hid hW1
  clear hcell hnews hlen u1 u2 u3 u4 hB1 hC1 hs1 hcu1 hW1 y1 y2 y3 y4 hfin hC2 e1 htake
  go_enter Tryz.func52, Tryz.ntmps52
  go_wp2_with fail
  go_region_law (first
    | (refine step_append_room rfl (.tmp 22) (.tmp 25) 83 rfl 96 i0 3 Tryz.underlying83 hi0 hz1 b off i cap (by simp [Act.eval, Act.put]) A (n - (i + 1)) (cap - (i + 1)) news (by simp [Act.eval, Act.put]) s1.out hsrc.out s2.out (by omega) s3.out ?_; rw [← HW1.out])
    | fail)
  all_goals
    go_wp2
    go_ret
    exact ⟨_, rfl, by rw [← HNEWS.out]; exact HFIN.out, HC2.out⟩

end Go.Proofs.YtgkfknbhkonfdaaGreatDoor

namespace Go.Proofs.YtgkfknbhkonfdaaGreatDoor
open Go.Shelf Go.RowKit
attribute [local go_sem ↓] Go.wp_at_zero Go.wp_at_succ

set_option maxRecDepth 100000 in
set_option maxHeartbeats 4000000 in
theorem addv_any (w : World) (gv : Nat) (q : VLies) (v : ViewP) (z : ThM) (h : ViewAt w gv q v) (hn : v.l.length ≤ 1099511627776) :
    Calls Tryz.prog 42 #[.pointer (some ⟨gv, 0, none⟩), .agg (encTh z).toArray] w fun e w' => e = .returned (.tuple #[]) ∧ ∃ q', VTurned w w' gv q (addV v z.z) q' := by
  obtain ⟨zu, ⟨zi, zth, ztx, zat, zk, zme, zmo, zbo⟩, za, zc, zb, zd⟩ := z
  have hadd : addV v (ThM.z ⟨zu, ⟨zi, zth, ztx, zat, zk, zme, zmo, zbo⟩, za, zc, zb, zd⟩) = ⟨v.box, v.l ++ [⟨zu, zi, zmo⟩], max v.had zu⟩ := rfl
  rw [hadd]
  simp only [encTh, encM, ThM.m, strV]
  obtain ⟨nk, hnk⟩ : ∃ nk, zk.length = nk := ⟨_, rfl⟩
  obtain ⟨nm, hnm⟩ : ∃ nm, zme.length = nm := ⟨_, rfl⟩
  rw [hnk, hnm]
  obtain ⟨n, hn0⟩ : ∃ n, v.l.length = n := ⟨_, rfl⟩
  rw [hn0] at hn
  obtain ⟨A, c, hvl, _, _⟩ := h.msgs.form
  rw [hn0] at hvl
  obtain ⟨i0, hi, hz0, hz1, hz2⟩ := info_parts Try.infoMsg
  obtain ⟨s, hs⟩ : ∃ s, w.heap.size = s := ⟨_, rfl⟩
  obtain ⟨w3, hw3⟩ : ∃ w3 : World, w3 = ((w.alloc (.cells #[.int .i64 zu, .int .i64 zi, .int .i64 zth, .string ⟨ztx.toArray⟩, .int .i64 zat, .slice za nk zc, .slice zb nm zd, .int .i64 zmo, .int .i64 zbo] 92)).alloc (.cells #[.int .i64 0] 131)).alloc (.cells #[.int .i64 zu, .int .i64 zi, .pointer (some ⟨s + 1, 0, none⟩)] 96) := ⟨_, rfl⟩
  have hb3 : Below w.heap.size w w3 := by
    rw [hw3]
    exact below_then (below_alloc1 _ _) (below_then (below_alloc1 _ _) (below_alloc1 _ _))
  have t1 : Blk w3 s 92 #[.int .i64 zu, .int .i64 zi, .int .i64 zth, .string ⟨ztx.toArray⟩, .int .i64 zat, .slice za nk zc, .slice zb nm zd, .int .i64 zmo, .int .i64 zbo] := by
    rw [hw3, ← hs]
    exact ((Blk.new w _ _).alloc _).alloc _
  have t2 : Blk w3 (s + 1) 131 #[.int .i64 0] := by
    have h1 := (Blk.new (w.alloc (.cells #[.int .i64 zu, .int .i64 zi, .int .i64 zth, .string ⟨ztx.toArray⟩, .int .i64 zat, .slice za nk zc, .slice zb nm zd, .int .i64 zmo, .int .i64 zbo] 92)) 131 #[.int .i64 0]).alloc (.cells #[.int .i64 zu, .int .i64 zi, .pointer (some ⟨s + 1, 0, none⟩)] 96)
    rw [World.size_alloc, hs] at h1
    rw [hw3]
    exact h1
  have t3 : Blk w3 (s + 2) 96 #[.int .i64 zu, .int .i64 zi, .pointer (some ⟨s + 1, 0, none⟩)] := by
    have h1 := Blk.new ((w.alloc (.cells #[.int .i64 zu, .int .i64 zi, .int .i64 zth, .string ⟨ztx.toArray⟩, .int .i64 zat, .slice za nk zc, .slice zb nm zd, .int .i64 zmo, .int .i64 zbo] 92)).alloc (.cells #[.int .i64 0] 131)) 96 #[.int .i64 zu, .int .i64 zi, .pointer (some ⟨s + 1, 0, none⟩)]
    rw [World.size_alloc, World.size_alloc, hs] at h1
    rw [hw3]
    exact h1
  have hst := atomStore_any (s + 1) 0 0 zmo w3 (t2.cell 0) (t2.frozen 0)
  have hpost : ∀ w4, w4 = w3.setCell ⟨s + 1, 0, none⟩ (.int .i64 zmo) → Below w.heap.size w w4 ∧ Blk w4 s 92 #[.int .i64 zu, .int .i64 zi, .int .i64 zth, .string ⟨ztx.toArray⟩, .int .i64 zat, .slice za nk zc, .slice zb nm zd, .int .i64 zmo, .int .i64 zbo] ∧ Blk w4 (s + 1) 131 #[.int .i64 zmo] ∧ Blk w4 (s + 2) 96 #[.int .i64 zu, .int .i64 zi, .pointer (some ⟨s + 1, 0, none⟩)] := fun w4 e => by
    rw [e]
    exact ⟨hb3.setCell (by show w.heap.size ≤ s + 1; omega) _, t1.far (p := ⟨s + 1, 0, none⟩) (by show s ≠ s + 1; omega) _, t2.set 0 _, t3.far (p := ⟨s + 1, 0, none⟩) (by show s + 2 ≠ s + 1; omega) _⟩
  rw [hw3] at hst
  rw [hw3] at hpost
  have HST := Lib.hid hst
  have HPOST := Lib.hid hpost
  have HV := Lib.hid h
  have HVL := Lib.hid hvl
  have HN := Lib.hid hn0
  have hgl : gv < s := by rw [← hs]; exact h.blk.lt
  obtain ⟨mx, hmx0⟩ : ∃ mx, (if v.had < zu then zu else v.had) = mx := ⟨_, rfl⟩
  have hmx := fun ats ty W => run_max_int (P := Tryz.prog) ats ty v.had zu W
  rw [hmx0] at hmx
  have hmx1 : max v.had zu = mx := by rw [← hmx0, Int.max_def]; split <;> split <;> omega
  rw [hmx1]
  have HSZ := Lib.hid hs
  clear hst hpost h hvl hn0 hnk hnm hadd hw3 hb3 t1 t2 t3 hmx0 hmx1
  go_enter Tryz.func42, Tryz.ntmps42
  go_upto_region 3 with (first
    | (go_at_call 54; refine HST.out.mono ?_; rintro e w4 ⟨rfl, hw4⟩; obtain ⟨hb4, k1, k2, k3⟩ := HPOST.out w4 hw4; have HB4 := Lib.hid hb4; have K1 := Lib.hid k1; have K2 := Lib.hid k2; have K3 := Lib.hid k3; clear hw4 hb4 k1 k2 k3)
    | fail)
  have hv4 := HV.out.later HB4.out
  have c1 : w4.cell? ⟨gv, 1, none⟩ = some (.slice A n c) := by
    have h1 := hv4.blk.cell 1
    rw [h1, ← HVL.out]
    rfl
  have f1 : w4.frozen? ⟨gv, 1, none⟩ = false := hv4.blk.frozen 1
  have m0 : w4.cell? ⟨s + 1 + 1, 0, none⟩ = some (.int .i64 zu) := K3.out.cell 0
  have m1 : w4.cell? ⟨s + 1 + 1, 1, none⟩ = some (.int .i64 zi) := K3.out.cell 1
  have m2 : w4.cell? ⟨s + 1 + 1, 2, none⟩ = some (.pointer (some ⟨s + 1, 0, none⟩)) := K3.out.cell 2
  have hsl : Sl w4 96 3 (.slice A n c) q.hl n (flatG encMsg q.ms) := by
    have h1 := hv4.msgs
    rw [HVL.out, HN.out] at h1
    exact h1
  have HS4 := Lib.hid hsl
  have HV4 := Lib.hid hv4
  have hgl4 : gv < w4.heap.size := hv4.blk.lt
  have hgh : gv ∉ q.hl.toList := fun hm => HV4.out.g_hl (by simpa using hm)
  clear hsl hv4
  go_cut [] (fun wx => ∃ q', Hid (VTurned w wx gv q { v with l := v.l ++ [⟨zu, zi, zmo⟩] } q') ∧ Hid (Blk wx s 92 #[.int .i64 zu, .int .i64 zi, .int .i64 zth, .string ⟨ztx.toArray⟩, .int .i64 zat, .slice za nk zc, .slice zb nm zd, .int .i64 zmo, .int .i64 zbo]))
  case first =>
    go_region_law (first
      | (refine step_append_sl _ (by rfl) (.tmp 23) (.tmp 25) _ (by rfl) Tryz.underlying83 hi hz0 hz1 hz2 rfl (by omega) (HS4.out.alloc _) (by first | (simp [Act.eval]; done) | simp [Act.eval, Act.put]) w4.heap.size #[.int .i64 zu, .int .i64 zi, .pointer (some ⟨s + 1, 0, none⟩)] (e' := 96) (fr := (0, 0)) (heap_alloc_new w4 _) 1 1 (by first | (simp [Act.eval]; done) | simp [Act.eval, Act.put]) (by rfl) (by simp [Value.oneCell']) (by unfold maxLen; omega) (by omega) ?_; intro v2 h2 w9 hs9 hc9 ho9; obtain ⟨A10, c10, rfl, _, _⟩ := hs9.form; have e1 : w9.cell? ⟨gv, 1, none⟩ = some (.slice A n c) := (hc9.cell (p := ⟨gv, 1, none⟩) (by simp; omega) hgh).trans ((World.cell?_alloc_past _ _ _ hgl4).trans c1); have g1 : w9.frozen? ⟨gv, 1, none⟩ = false := (hc9.frozen (p := ⟨gv, 1, none⟩) (by simp; omega) hgh).trans ((World.frozen?_alloc_past _ _ _ hgl4).trans f1))
      | fail)
    all_goals
      have hc9' : Chg q.hl.toList (w4.alloc (.cells #[.int .i64 zu, .int .i64 zi, .pointer (some ⟨s + 1, 0, none⟩)] 96)) w9 := ⟨hc9.os, hc9.tape, hc9.output, hc9.size, hc9.block⟩
      have hpu := ViewAt.push (HV4.out.later (below_alloc1 w4 (.cells #[.int .i64 zu, .int .i64 zi, .pointer (some ⟨s + 1, 0, none⟩)] 96))) (w0 := w) (below_then HB4.out (below_alloc1 _ _)) HV.out (⟨⟨zu, zi, zmo⟩, s + 1⟩ : MsgM) (K2.out.alloc _) (by rw [HSZ.out]; show s ≤ s + 1; omega) (v2 := .slice A10 (n + 1) c10) (h2 := h2) (w' := w9) (by rw [HN.out]; exact hs9) hc9' ho9
      have hsg : s ∉ q.hl.toList := fun hm => by
        have := HV.out.lt (VLies.own_hl (by simpa using hm))
        rw [HSZ.out] at this
        omega
      have hbk := (((K1.out.alloc (.cells #[.int .i64 zu, .int .i64 zi, .pointer (some ⟨s + 1, 0, none⟩)] 96)).chg hc9' hsg)).far (p := ⟨gv, 1, none⟩) (by show s ≠ gv; omega) (.slice A10 (n + 1) c10)
      have HPU := Lib.hid hpu
      have HBK := Lib.hid hbk
      clear hpu hbk hs9 hc9 hc9' ho9 hsg
      go_wp2_with fail
      go_meet
      exact ⟨_, HPU, HBK⟩
  case rest =>
    obtain ⟨q', HT, HBK⟩ := hcut
    obtain ⟨w5, rfl⟩ : ∃ w5 : World, w5 = wc := ⟨_, rfl⟩
    have h2 : w5.cell? ⟨gv, 2, none⟩ = some (.int .i64 v.had) := HT.out.at_.blk.cell 2
    have g2 : w5.frozen? ⟨gv, 2, none⟩ = false := HT.out.at_.blk.frozen 2
    have b0 : w5.cell? ⟨s, 0, none⟩ = some (.int .i64 zu) := HBK.out.cell 0
    have HFIN := Lib.hid (HT.out.trans (HT.out.at_.setHad mx))
    clear c1 f1 m0 m1 m2 hgl4 hgh
    go_upto_region 4 with (fail)
    go_region_law (fail)
    all_goals
      go_wp2_with fail
      go_end0
      first | exact ⟨rfl, _, HFIN.out⟩ | exact ⟨rfl, _, HFIN.out.then (below_drew1 _)⟩

end Go.Proofs.YtgkfknbhkonfdaaGreatDoor

namespace Go.Proofs.YtgkfknbhkonfdaaGreatDoor
open Go.Shelf Go.RowKit Go.Lib
attribute [local go_sem ↓] Go.wp_at_zero Go.wp_at_succ

theorem len9 {l : List Value} (h : l.length = 9) : ∃ a b c d e f i j k, l = [a, b, c, d, e, f, i, j, k] := by
  rcases l with _ | ⟨a, _ | ⟨b, _ | ⟨c, _ | ⟨d, _ | ⟨e, _ | ⟨f, _ | ⟨i, _ | ⟨j, _ | ⟨k, _ | ⟨u, v⟩⟩⟩⟩⟩⟩⟩⟩⟩⟩ <;> first | exact ⟨_, _, _, _, _, _, _, _, _, rfl⟩ | (exfalso; simp at h; done) | (exfalso; simp at h; omega)

set_option maxHeartbeats 2000000 in
theorem idxT_own {α : Type} [Inhabited α] (enc : α → List Value) (hk : ∀ x, (enc x).length = 9) (p : α → Bool) (g : Nat) (lb : Array Value) (eg : ∀ args w, (callFunc g args).run Tryz.prog w = .ok (.enter g args) w) (b off n c : Nat) (zs : List α) (w : World)
    (hp : ∀ W, Below w.heap.size w W → ∀ x ∈ zs, Calls Tryz.prog g (#[.agg (enc x).toArray] ++ lb) W fun e w' => e = .returned (.bool (p x)) ∧ Below w.heap.size w w') (hz : zs.length = n) (hbig : n ≤ 9223372036854775807) (hb : b < w.heap.size)
    (hc : ∀ j, j < zs.length → ∀ i v, (enc zs[j]!)[i]? = some v → w.cell? ⟨b, off + j * 9 + i, none⟩ = some v) :
    Calls Tryz.prog 50 #[.slice (some ⟨b, off, none⟩) n c, .func (.func g) #[] lb] w fun e w' => e = .returned (.int .i64 (place p zs)) ∧ Below w.heap.size w w' := by
  have hrow : ∀ (W : World), Below w.heap.size w W → ∀ j, j < zs.length → ∀ i v, (enc zs[j]!)[i]? = some v → W.cell? ⟨b, off + j * 9 + i, none⟩ = some v := fun W hW j hj i v hi => (hW.cell (p := ⟨b, off + j * 9 + i, none⟩) hb).trans (hc j hj i v hi)
  clear hc
  go_enter Tryz.func50, Tryz.ntmps50
  go_wp2
  go_loopg [5, 8] n (fun gg _ s8 wr => ∃ kk : Nat, kk ≤ n ∧ n - kk ≤ gg ∧ s8 = .int .i64 kk ∧ Aside (Below w.heap.size w wr) ∧ Aside (∀ j, j < kk → p zs[j]! = false))
  case atStart => exact ⟨0, Nat.zero_le _, by omega, rfl, Below.refl _ w, fun j hj => absurd hj (Nat.not_lt_zero _)⟩
  case round =>
    obtain ⟨kk, hkk, hg, rfl, BW, A⟩ := hrel
    by_cases hlt : kk < n
    · have hltz : (kk : Int) < (n : Int) := by omega
      have l2 := hrow wr BW.out kk (by omega)
      have hcall := hp wr BW.out zs[kk]! (mem_get! (by omega))
      clear hrow hp
      generalize hy : zs[kk]! = y at l2 hcall
      have B : Aside (zs[kk]! = y) := hy
      clear hy
      obtain ⟨u0, u1, u2, u3, u4, u5, u6, u7, u8, hv⟩ := len9 (hk y)
      rw [hv] at l2 hcall
      have d0 : wr.cell? ⟨b, off + kk * 9, none⟩ = some u0 := l2 0 u0 rfl
      have d1 : wr.cell? ⟨b, off + kk * 9 + 1, none⟩ = some u1 := l2 1 u1 rfl
      have d2 : wr.cell? ⟨b, off + kk * 9 + 2, none⟩ = some u2 := l2 2 u2 rfl
      have d3 : wr.cell? ⟨b, off + kk * 9 + 3, none⟩ = some u3 := l2 3 u3 rfl
      have d4 : wr.cell? ⟨b, off + kk * 9 + 4, none⟩ = some u4 := l2 4 u4 rfl
      have d5 : wr.cell? ⟨b, off + kk * 9 + 5, none⟩ = some u5 := l2 5 u5 rfl
      have d6 : wr.cell? ⟨b, off + kk * 9 + 6, none⟩ = some u6 := l2 6 u6 rfl
      have d7 : wr.cell? ⟨b, off + kk * 9 + 7, none⟩ = some u7 := l2 7 u7 rfl
      have d8 : wr.cell? ⟨b, off + kk * 9 + 8, none⟩ = some u8 := l2 8 u8 rfl
      have hcall : Calls Tryz.prog g (#[.agg #[u0, u1, u2, u3, u4, u5, u6, u7, u8]] ++ lb) wr fun e w' => e = .returned (.bool (p y)) ∧ Below w.heap.size w w' := hcall
      have HV := Lib.hid hv
      clear l2 hv
      cases hq : p y with
      | true =>
        rw [hq] at hcall
        go_wp2_with (go_at_fn g; refine hcall.mono ?_; rintro e w' ⟨rfl, hb'⟩)
        go_ret
        refine ⟨?_, hb'⟩
        rw [place_hit p zs kk (by omega) (by rw [B.out]; exact hq) A.out]
        rfl
      | false =>
        rw [hq] at hcall
        go_wp2_with (go_at_fn g; refine hcall.mono ?_; rintro e w' ⟨rfl, hb'⟩)
        go_roundg (n - (kk + 1))
        case measure => omega
        case rel =>
          refine ⟨kk + 1, by omega, by omega, by go_num, hb', (show Aside _ from fun j hj => ?_)⟩
          by_cases e : j = kk
          · subst e
            rw [B.out]; exact hq
          · exact A.out j (by omega)
    · have hltz : ¬ (kk : Int) < (n : Int) := by omega
      have : kk = n := by omega
      subst this
      go_wp2
      go_ret
      refine ⟨?_, BW.out⟩
      rw [place_miss p zs (fun j hj => A.out j (by omega))]
      rfl

set_option maxHeartbeats 1000000 in
theorem idxT_empty (a : Option Addr) (c : Nat) (fv : Value) (w : World) :
    Calls Tryz.prog 50 #[.slice a 0 c, fv] w fun e w' => e = .returned (.int .i64 (-1)) ∧ w' = w := by
  go_enter Tryz.func50, Tryz.ntmps50
  go_wp2
  go_loopg [5, 8] 0 (fun _ _ s8 wr => s8 = .int .i64 0 ∧ wr = w)
  case atStart => exact ⟨rfl, rfl⟩
  case round =>
    obtain ⟨rfl, rfl⟩ := hrel
    go_wp2
    go_ret
    exact ⟨rfl, rfl⟩

theorem idxT_any (v : Value) (S : List Nat) (l : List ThM) (p : ThM → Bool) (g : Nat) (lb : Array Value) (eg : ∀ args w, (callFunc g args).run Tryz.prog w = .ok (.enter g args) w) (w : World) (hr : RdS w S 9 v l.length (flatG encTh l)) (hn : l.length ≤ 1099511627776)
    (hp : ∀ W, Below w.heap.size w W → ∀ x ∈ l, Calls Tryz.prog g (#[.agg (encTh x).toArray] ++ lb) W fun e w' => e = .returned (.bool (p x)) ∧ Below w.heap.size w w') :
    Calls Tryz.prog 50 #[v, .func (.func g) #[] lb] w fun e w' => e = .returned (.int .i64 (place p l)) ∧ Below w.heap.size w w' := by
  rcases Nat.eq_zero_or_pos l.length with h0 | hpos
  · obtain rfl : l = [] := List.eq_nil_of_length_eq_zero h0
    obtain ⟨A, cap, rfl, _, _⟩ := hr.form
    refine (idxT_empty A cap _ w).mono ?_
    rintro e w' ⟨rfl, rfl⟩
    exact ⟨rfl, Below.refl _ _⟩
  · obtain ⟨b, off, cap, rfl, _, _, hlt, _, hat⟩ := hr.at_ hpos
    exact idxT_own encTh encTh_length p g lb eg b off l.length cap l w hp rfl (by omega) hlt (fun j hj i v hv => by
      rw [getElem!_pos l j hj] at hv
      have h2 : i < 9 := by
        have := (List.getElem?_eq_some_iff.1 hv).1
        rw [encTh_length] at this
        exact this
      rw [show off + j * 9 + i = off + (j * 9 + i) by omega, hat _ (by omega), flatG_get encTh_length l j i hj h2]
      exact hv)
/-- The first of a list that is so, by its place. -/
theorem place_find {α : Type} {p : α → Bool} : ∀ {l : List α} {z : α}, l.find? p = some z → ∃ k, ∃ hk : k < l.length, place p l = (k : Int) ∧ l[k] = z
  | x :: r, z, h => by
    by_cases hx : p x = true
    · rw [List.find?_cons_of_pos hx] at h
      exact ⟨0, by simp, by simp [place, hx], Option.some.inj h⟩
    · rw [List.find?_cons_of_neg hx] at h
      obtain ⟨k, hk, h1, h2⟩ := place_find h
      refine ⟨k + 1, by simpa using hk, ?_, h2⟩
      unfold place
      rw [if_neg hx, h1, if_neg (by omega)]
      omega
theorem find_none_place {α : Type} {p : α → Bool} {l : List α} (h : l.find? p = none) : place p l = -1 := by
  refine place_neg p l ?_
  rw [List.any_eq_false]
  intro x hx
  have := List.find?_eq_none.1 h x hx
  exact this

set_option maxRecDepth 100000 in
set_option maxHeartbeats 1000000 in
theorem isPred_any (m : Msg) (B : Nat) (w W : World) (z : ThM) (h0 : w.cell? ⟨B, 0, none⟩ = some (.int .i64 m.uid)) (h1 : w.cell? ⟨B, 1, none⟩ = some (.int .i64 m.id)) (hlt : B < w.heap.size) (hb : Below w.heap.size w W) :
    Calls Tryz.prog 51 #[.agg (encTh z).toArray, .pointer (some ⟨B, 0, none⟩)] W fun e w' => e = .returned (.bool (isZ m z.z)) ∧ Below W.heap.size W w' := by
  obtain ⟨z1, zp, za, zc, zb, zd⟩ := z
  obtain ⟨mu, mi, mt⟩ := m
  have k0 : W.cell? ⟨B, 0, none⟩ = some (.int .i64 mu) := (hb.cell hlt).trans h0
  have k1 : W.cell? ⟨B, 1, none⟩ = some (.int .i64 mi) := (hb.cell hlt).trans h1
  have hltW : B < W.heap.size := Nat.lt_of_lt_of_le hlt hb.size
  have hB := fun o => Below.heap_alloc W o B hltW
  have hne : B ≠ W.heap.size := by omega
  obtain ⟨zi, zth, ztx, zat, zk, zme, zmo, zbo⟩ := zp
  have e1 : isZ ⟨mu, mi, mt⟩ (ThM.z ⟨z1, ⟨zi, zth, ztx, zat, zk, zme, zmo, zbo⟩, za, zc, zb, zd⟩) = (decide (z1 = mu) && decide (zi = mi)) := rfl
  rw [e1]
  simp only [encTh, encM, ThM.m, strV]
  clear h0 h1 hb e1
  by_cases c1 : z1 = mu
  · have d1 : (z1 == mu) = true := by simpa using c1
    rw [decide_eq_true c1, Bool.true_and]
    obtain ⟨bb, hbb⟩ : ∃ bb, decide (zi = mi) = bb := ⟨_, rfl⟩
    have d2 : (zi == mi) = bb := by rw [← hbb]; rfl
    rw [hbb]
    clear hbb c1
    go_enter Tryz.func51, Tryz.ntmps51
    go_wp2
    go_ret
    exact ⟨rfl, (Below.refl _ _).alloc (Nat.le_refl _) _⟩
  · have d1 : (z1 == mu) = false := by simpa using c1
    rw [decide_eq_false c1, Bool.false_and]
    clear c1
    go_enter Tryz.func51, Tryz.ntmps51
    go_wp2
    go_ret
    exact ⟨rfl, (Below.refl _ _).alloc (Nat.le_refl _) _⟩

def zeroTh : Array Value := #[.int .i64 0, .int .i64 0, .int .i64 0, .string ⟨#[]⟩, .int .i64 0, .slice none 0 0, .slice none 0 0, .int .i64 0, .int .i64 0]
def FoundOut (w : World) (l : List ThM) (m : Msg) (e : Ending) (w' : World) : Prop :=
  e = .returned (match l.find? (fun z => isZ m z.z) with
    | some z => .tuple #[.agg (encTh z).toArray, .bool true]
    | none => .tuple #[.agg zeroTh, .bool false]) ∧ Below w.heap.size w w'

set_option maxRecDepth 100000 in
set_option maxHeartbeats 4000000 in
theorem find_any (w : World) (m : Msg) (t b9 : Nat) (nv : Value) (l : List ThM) (hc : w.cell? ⟨b9, 0, none⟩ = some nv) (hlt : b9 < w.heap.size) (h : ThereAt w nv l) (hn : l.length ≤ 1099511627776) :
    Calls Tryz.prog 49 #[.agg #[.int .i64 m.uid, .int .i64 m.id, .pointer (some ⟨t, 0, none⟩)], .pointer (some ⟨b9, 0, none⟩)] w (FoundOut w l m) := by
  have eg : ∀ args w, (callFunc 51 args).run Tryz.prog w = .ok (.enter 51 args) w := enters_of Tryz.func51 (by kernel_rfl) rfl
  have hix := fun W (hb : Below w.heap.size w W) (h0 : W.cell? ⟨w.heap.size, 0, none⟩ = some (.int .i64 m.uid)) (h1 : W.cell? ⟨w.heap.size, 1, none⟩ = some (.int .i64 m.id)) (hl : w.heap.size < W.heap.size) => idxT_any nv [] l (fun z => isZ m z.z) 51 #[.pointer (some ⟨w.heap.size, 0, none⟩)] eg W (h.rd.below hb) hn (fun W2 hb2 x _ => (isPred_any m w.heap.size W W2 x h0 h1 hl hb2).mono fun _ _ ⟨he, hb3⟩ => ⟨he, below_then hb2 hb3⟩)
  have hnone := fun hq => find_none_place (p := fun z : ThM => isZ m z.z) (l := l) hq
  have hsome := fun z hq => place_find (p := fun z : ThM => isZ m z.z) (l := l) (z := z) hq
  unfold FoundOut zeroTh
  obtain ⟨r, hr⟩ : ∃ r, place (fun z : ThM => isZ m z.z) l = r := ⟨_, rfl⟩
  obtain ⟨fo, hfo⟩ : ∃ fo, l.find? (fun z => isZ m z.z) = fo := ⟨_, rfl⟩
  rw [hr] at hnone hsome hix
  rw [hfo] at hnone hsome ⊢
  obtain ⟨mu, mi, mt⟩ := m
  have HIX := Lib.hid hix
  have HT := Lib.hid h
  clear hix hr hfo
  cases fo with
  | none =>
    have hr1 := hnone rfl
    subst hr1
    clear hnone hsome h
    go_enter Tryz.func49, Tryz.ntmps49
    go_wp2_with (first
      | (go_at_call 50; refine (HIX.out _ (below_then (below_alloc1 _ _) (below_alloc1 _ _)) (by simp) (by simp) (by simp only [World.size_alloc]; omega)).mono ?_; rintro e w3 ⟨rfl, hb3⟩; have hB3 : Blk w3 (w.heap.size + 1) 92 #[.int .i64 0, .int .i64 0, .int .i64 0, .string ⟨#[]⟩, .int .i64 0, .slice none 0 0, .slice none 0 0, .int .i64 0, .int .i64 0] := Blk.below (by have h1 := Blk.new (w.alloc (.cells #[.int .i64 mu, .int .i64 mi, .pointer (some ⟨t, 0, none⟩)] 96)) 92 #[.int .i64 0, .int .i64 0, .int .i64 0, .string ⟨#[]⟩, .int .i64 0, .slice none 0 0, .slice none 0 0, .int .i64 0, .int .i64 0]; rw [World.size_alloc] at h1; exact h1) hb3 (by simp); have r0 : w3.cell? ⟨w.heap.size + 1, 0, none⟩ = some (.int .i64 0) := hB3.cell 0; have rf0 : w3.frozen? ⟨w.heap.size + 1, 0, none⟩ = false := hB3.frozen 0; have r1 : w3.cell? ⟨w.heap.size + 1, 1, none⟩ = some (.int .i64 0) := hB3.cell 1; have rf1 : w3.frozen? ⟨w.heap.size + 1, 1, none⟩ = false := hB3.frozen 1; have r2 : w3.cell? ⟨w.heap.size + 1, 2, none⟩ = some (.int .i64 0) := hB3.cell 2; have rf2 : w3.frozen? ⟨w.heap.size + 1, 2, none⟩ = false := hB3.frozen 2; have r3 : w3.cell? ⟨w.heap.size + 1, 3, none⟩ = some (.string ⟨#[]⟩) := hB3.cell 3; have rf3 : w3.frozen? ⟨w.heap.size + 1, 3, none⟩ = false := hB3.frozen 3; have r4 : w3.cell? ⟨w.heap.size + 1, 4, none⟩ = some (.int .i64 0) := hB3.cell 4; have rf4 : w3.frozen? ⟨w.heap.size + 1, 4, none⟩ = false := hB3.frozen 4; have r5 : w3.cell? ⟨w.heap.size + 1, 5, none⟩ = some (.slice none 0 0) := hB3.cell 5; have rf5 : w3.frozen? ⟨w.heap.size + 1, 5, none⟩ = false := hB3.frozen 5; have r6 : w3.cell? ⟨w.heap.size + 1, 6, none⟩ = some (.slice none 0 0) := hB3.cell 6; have rf6 : w3.frozen? ⟨w.heap.size + 1, 6, none⟩ = false := hB3.frozen 6; have r7 : w3.cell? ⟨w.heap.size + 1, 7, none⟩ = some (.int .i64 0) := hB3.cell 7; have rf7 : w3.frozen? ⟨w.heap.size + 1, 7, none⟩ = false := hB3.frozen 7; have r8 : w3.cell? ⟨w.heap.size + 1, 8, none⟩ = some (.int .i64 0) := hB3.cell 8; have rf8 : w3.frozen? ⟨w.heap.size + 1, 8, none⟩ = false := hB3.frozen 8; have L3 := Lib.hid (below_then (below_alloc1 w _) (below_then (below_alloc1 _ _) hb3)); have B3 := Lib.hid hB3; clear hb3 hB3)
      | fail)
    have hc : Chg [w.heap.size + 1] w3 _ := ((((((((((Chg.refl [w.heap.size + 1] w3).set (p := ⟨w.heap.size + 1, 0, none⟩) (.inl (by simp)) (.int .i64 0)).set (p := ⟨w.heap.size + 1, 1, none⟩) (.inl (by simp)) (.int .i64 0)).set (p := ⟨w.heap.size + 1, 2, none⟩) (.inl (by simp)) (.int .i64 0)).set (p := ⟨w.heap.size + 1, 3, none⟩) (.inl (by simp)) (.string ⟨#[]⟩)).set (p := ⟨w.heap.size + 1, 4, none⟩) (.inl (by simp)) (.int .i64 0)).set (p := ⟨w.heap.size + 1, 5, none⟩) (.inl (by simp)) (.slice none 0 0)).set (p := ⟨w.heap.size + 1, 6, none⟩) (.inl (by simp)) (.slice none 0 0)).set (p := ⟨w.heap.size + 1, 7, none⟩) (.inl (by simp)) (.int .i64 0)).set (p := ⟨w.heap.size + 1, 8, none⟩) (.inl (by simp)) (.int .i64 0))
    have hb := L3.out.trans (hc.below L3.out.size (fun k hk => by rw [List.mem_singleton.1 hk]; omega))
    refine bodyPost_ret (v := .tuple #[.agg #[.int .i64 0, .int .i64 0, .int .i64 0, .string ⟨#[]⟩, .int .i64 0, .slice none 0 0, .slice none 0 0, .int .i64 0, .int .i64 0], .bool false]) ?_ rfl ⟨rfl, hb⟩
    simp [results, Tryz.results49, go_sem, r0, r1, r2, r3, r4, r5, r6, r7, r8]
  | some z =>
    obtain ⟨k, hk, hrk, hz⟩ := hsome z rfl
    subst hrk
    obtain ⟨b, off, cap, hv, _, _, hbl, _, hat⟩ := h.rd.at_ (by omega)
    subst hv
    have hat9 : ∀ j, j < 9 → w.cell? ⟨b, off + k * 9 + j, none⟩ = (encTh z)[j]? := fun j hj => by
      rw [Nat.add_assoc, hat _ (by omega), flatG_get encTh_length l k j hk hj, hz]
    change Calls Tryz.prog 49 _ w fun e w' => e = .returned (.tuple #[.agg (encTh z).toArray, .bool true]) ∧ Below w.heap.size w w'
    obtain ⟨zu, ⟨zi, zth, ztx, zat, zk, zme, zmo, zbo⟩, za, zc, zb, zd⟩ := z
    simp only [encTh, encM, ThM.m, strV] at hat9 ⊢
    obtain ⟨nk, hnk⟩ : ∃ nk, zk.length = nk := ⟨_, rfl⟩
    obtain ⟨nm, hnm⟩ : ∃ nm, zme.length = nm := ⟨_, rfl⟩
    rw [hnk, hnm] at hat9 ⊢
    have HAT : Hid (∀ W, Below w.heap.size w W → ∀ j, j < 9 → W.cell? ⟨b, off + k * 9 + j, none⟩ = ([.int .i64 zu, .int .i64 zi, .int .i64 zth, .string ⟨ztx.toArray⟩, .int .i64 zat, .slice za nk zc, .slice zb nm zd, .int .i64 zmo, .int .i64 zbo] : List Value)[j]?) := Lib.hid (fun W hb j hj => (hb.cell (p := ⟨b, off + k * 9 + j, none⟩) hbl).trans (hat9 j hj))
    have HHC := Lib.hid (show ∀ W, Below w.heap.size w W → W.cell? ⟨b9, 0, none⟩ = some (.slice (some ⟨b, off, none⟩) l.length cap) from fun W hb => (hb.cell (p := ⟨b9, 0, none⟩) hlt).trans hc)
    obtain ⟨n, hn0⟩ : ∃ n, l.length = n := ⟨_, rfl⟩
    rw [hn0] at HIX HHC hc hk hn
    have hk0 : (0 : Int) ≤ (k : Int) := by omega
    have hkn : (k : Int) < (n : Int) := by omega
    have hneg : ¬ (k : Int) < 0 := by omega
    have hcap : ∃ c2, cap = c2 := ⟨_, rfl⟩
    clear hnone hsome h HT hat hat9 hz hn0 hcap eg hnk hnm
    go_enter Tryz.func49, Tryz.ntmps49
    go_wp2_with (first
      | (go_at_call 50; refine (HIX.out _ (below_then (below_alloc1 _ _) (below_alloc1 _ _)) (by simp) (by simp) (by simp only [World.size_alloc]; omega)).mono ?_; rintro e w3 ⟨rfl, hb3⟩; have hB3 : Blk w3 (w.heap.size + 1) 92 #[.int .i64 0, .int .i64 0, .int .i64 0, .string ⟨#[]⟩, .int .i64 0, .slice none 0 0, .slice none 0 0, .int .i64 0, .int .i64 0] := Blk.below (by have h1 := Blk.new (w.alloc (.cells #[.int .i64 mu, .int .i64 mi, .pointer (some ⟨t, 0, none⟩)] 96)) 92 #[.int .i64 0, .int .i64 0, .int .i64 0, .string ⟨#[]⟩, .int .i64 0, .slice none 0 0, .slice none 0 0, .int .i64 0, .int .i64 0]; rw [World.size_alloc] at h1; exact h1) hb3 (by simp); have r0 : w3.cell? ⟨w.heap.size + 1, 0, none⟩ = some (.int .i64 0) := hB3.cell 0; have rf0 : w3.frozen? ⟨w.heap.size + 1, 0, none⟩ = false := hB3.frozen 0; have r1 : w3.cell? ⟨w.heap.size + 1, 1, none⟩ = some (.int .i64 0) := hB3.cell 1; have rf1 : w3.frozen? ⟨w.heap.size + 1, 1, none⟩ = false := hB3.frozen 1; have r2 : w3.cell? ⟨w.heap.size + 1, 2, none⟩ = some (.int .i64 0) := hB3.cell 2; have rf2 : w3.frozen? ⟨w.heap.size + 1, 2, none⟩ = false := hB3.frozen 2; have r3 : w3.cell? ⟨w.heap.size + 1, 3, none⟩ = some (.string ⟨#[]⟩) := hB3.cell 3; have rf3 : w3.frozen? ⟨w.heap.size + 1, 3, none⟩ = false := hB3.frozen 3; have r4 : w3.cell? ⟨w.heap.size + 1, 4, none⟩ = some (.int .i64 0) := hB3.cell 4; have rf4 : w3.frozen? ⟨w.heap.size + 1, 4, none⟩ = false := hB3.frozen 4; have r5 : w3.cell? ⟨w.heap.size + 1, 5, none⟩ = some (.slice none 0 0) := hB3.cell 5; have rf5 : w3.frozen? ⟨w.heap.size + 1, 5, none⟩ = false := hB3.frozen 5; have r6 : w3.cell? ⟨w.heap.size + 1, 6, none⟩ = some (.slice none 0 0) := hB3.cell 6; have rf6 : w3.frozen? ⟨w.heap.size + 1, 6, none⟩ = false := hB3.frozen 6; have r7 : w3.cell? ⟨w.heap.size + 1, 7, none⟩ = some (.int .i64 0) := hB3.cell 7; have rf7 : w3.frozen? ⟨w.heap.size + 1, 7, none⟩ = false := hB3.frozen 7; have r8 : w3.cell? ⟨w.heap.size + 1, 8, none⟩ = some (.int .i64 0) := hB3.cell 8; have rf8 : w3.frozen? ⟨w.heap.size + 1, 8, none⟩ = false := hB3.frozen 8; have L3 := Lib.hid (below_then (below_alloc1 w _) (below_then (below_alloc1 _ _) hb3)); have B3 := Lib.hid hB3; have y9 := HHC.out w3 L3.out; have d0 : w3.cell? ⟨b, off + k * 9, none⟩ = some (.int .i64 zu) := HAT.out w3 L3.out 0 (by omega); have d1 : w3.cell? ⟨b, off + k * 9 + 1, none⟩ = some (.int .i64 zi) := HAT.out w3 L3.out 1 (by omega); have d2 : w3.cell? ⟨b, off + k * 9 + 2, none⟩ = some (.int .i64 zth) := HAT.out w3 L3.out 2 (by omega); have d3 : w3.cell? ⟨b, off + k * 9 + 3, none⟩ = some (.string ⟨ztx.toArray⟩) := HAT.out w3 L3.out 3 (by omega); have d4 : w3.cell? ⟨b, off + k * 9 + 4, none⟩ = some (.int .i64 zat) := HAT.out w3 L3.out 4 (by omega); have d5 : w3.cell? ⟨b, off + k * 9 + 5, none⟩ = some (.slice za nk zc) := HAT.out w3 L3.out 5 (by omega); have d6 : w3.cell? ⟨b, off + k * 9 + 6, none⟩ = some (.slice zb nm zd) := HAT.out w3 L3.out 6 (by omega); have d7 : w3.cell? ⟨b, off + k * 9 + 7, none⟩ = some (.int .i64 zmo) := HAT.out w3 L3.out 7 (by omega); have d8 : w3.cell? ⟨b, off + k * 9 + 8, none⟩ = some (.int .i64 zbo) := HAT.out w3 L3.out 8 (by omega); clear hb3 hB3)
      | fail)
    have hc : Chg [w.heap.size + 1] w3 _ := ((((((((((Chg.refl [w.heap.size + 1] w3).set (p := ⟨w.heap.size + 1, 0, none⟩) (.inl (by simp)) (.int .i64 zu)).set (p := ⟨w.heap.size + 1, 1, none⟩) (.inl (by simp)) (.int .i64 zi)).set (p := ⟨w.heap.size + 1, 2, none⟩) (.inl (by simp)) (.int .i64 zth)).set (p := ⟨w.heap.size + 1, 3, none⟩) (.inl (by simp)) (.string ⟨ztx.toArray⟩)).set (p := ⟨w.heap.size + 1, 4, none⟩) (.inl (by simp)) (.int .i64 zat)).set (p := ⟨w.heap.size + 1, 5, none⟩) (.inl (by simp)) (.slice za nk zc)).set (p := ⟨w.heap.size + 1, 6, none⟩) (.inl (by simp)) (.slice zb nm zd)).set (p := ⟨w.heap.size + 1, 7, none⟩) (.inl (by simp)) (.int .i64 zmo)).set (p := ⟨w.heap.size + 1, 8, none⟩) (.inl (by simp)) (.int .i64 zbo))
    have hb := L3.out.trans (hc.below L3.out.size (fun k hk => by rw [List.mem_singleton.1 hk]; omega))
    refine bodyPost_ret (v := .tuple #[.agg #[.int .i64 zu, .int .i64 zi, .int .i64 zth, .string ⟨ztx.toArray⟩, .int .i64 zat, .slice za nk zc, .slice zb nm zd, .int .i64 zmo, .int .i64 zbo], .bool true]) ?_ rfl ⟨rfl, hb⟩
    simp [results, Tryz.results49, go_sem, r0, r1, r2, r3, r4, r5, r6, r7, r8]

end Go.Proofs.YtgkfknbhkonfdaaGreatDoor
