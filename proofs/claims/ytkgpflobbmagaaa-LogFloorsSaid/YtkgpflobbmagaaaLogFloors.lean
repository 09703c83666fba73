/-
  The walk of pillarboxlaw17.LogFloors, and the plain law.
-/
import Derived.Test.YtkgpflobbmagaaaLogOwn
namespace Go.Proofs.Ytkgpflobbmagaaa
open Go.RowKit
attribute [local go_sem ↓] Go.wp_at_zero Go.wp_at_succ

def eeF (i : Nat) : E4 := ⟨i, 2, i, 1⟩
def allF (c : Nat) : List E4 := (List.range c).map fun j => eeF (j + 1)
def logF (m c : Nat) : LogV := ⟨m, (allF c).drop (c - m), (c - m : Nat)⟩

theorem allF_length (c : Nat) : (allF c).length = c := by simp [allF]
theorem allF_succ (c : Nat) : allF (c + 1) = allF c ++ [eeF (c + 1)] := by simp [allF, List.range_succ]
theorem allF_get (c i : Nat) (h : i < c) : (allF c)[i]? = some (eeF (i + 1)) := by simp [allF, h]

theorem logF_add (m c : Nat) (hm : 1 ≤ m) : (logF m c).add [eeF (c + 1)] = logF m (c + 1) := by
  have hl : addLoop ((allF c).drop (c - m)) [eeF (c + 1)] = (allF (c + 1)).drop (c - m) := by
    have hno : ¬ ∃ y ∈ ((allF c).drop (c - m)).getLast?, (eeF (c + 1)).m < y.m := by
      rintro ⟨y, hy, hlt⟩
      rw [Option.mem_def, List.getLast?_eq_getElem?, List.getElem?_drop, List.length_drop, allF_length] at hy
      have h1 : c - m + (c - (c - m) - 1) < c ∨ c = 0 := by omega
      rcases h1 with h1 | h1
      · rw [allF_get c _ h1] at hy
        injection hy with hy
        subst hy
        simp only [eeF] at hlt
        omega
      · subst h1
        simp [allF] at hy
    rw [addLoop, if_neg hno, addLoop, allF_succ, List.drop_append_of_le_length (by rw [allF_length]; omega)]
  have hlen : ((allF (c + 1)).drop (c - m)).length = c + 1 - (c - m) := by rw [List.length_drop, allF_length]
  unfold LogV.add
  simp only [logF, hl, hlen]
  by_cases hc : c < m
  · rw [if_neg (by omega), show c - m = 0 from by omega, show c + 1 - m = 0 from by omega]
  · rw [if_pos (by omega), show (((c + 1 - (c - m) : Nat) : Int) - (m : Int)).toNat = 1 from by omega, List.drop_drop, show c - m + 1 = c + 1 - m from by omega, List.getElem?_drop, allF_get (c + 1) _ (by omega)]
    simp only [Option.getD_some, eeF]
    congr 1
    omega

theorem foldl_addS_fresh : ∀ (l : List E4) (s : Seen), (l.map (·.i)).Nodup → (∀ e ∈ l, ∀ p ∈ s, p.1 ≠ e.i) → l.foldl addS s = s ++ l.map fun e => (e.i, e.h, e.h)
  | [], s, _, _ => by simp
  | e :: l, s, hn, hf => by
    rw [List.map_cons, List.nodup_cons] at hn
    have hnew : s.find? (fun p => p.1 == e.i) = none := by
      rw [List.find?_eq_none]
      intro p hp
      simpa using hf e (List.mem_cons_self ..) p hp
    rw [List.foldl_cons, addS_new s e hnew, foldl_addS_fresh l _ hn.2 (fun e' he' p hp => ?_)]
    · simp
    · rw [List.mem_append] at hp
      rcases hp with hp | hp
      · exact hf e' (List.mem_cons_of_mem _ he') p hp
      · simp at hp
        subst hp
        simp only
        rintro h
        exact hn.1 (List.mem_map.2 ⟨e', he', h.symm⟩)
theorem foldl_told_made : ∀ (l : List Int) (t : Told), (l.map fun i => (i, (1 : Int), (1 : Int))).foldl toldOne t = ⟨t.made ++ l, t.turned, t.gone⟩
  | [], t => by simp
  | i :: l, t => by
    rw [List.map_cons, List.foldl_cons, foldl_told_made l]
    simp [toldOne]
theorem told_made (l : List E4) (hn : (l.map (·.i)).Nodup) (h1 : ∀ e ∈ l, e.h = 1) : told l = ⟨l.map (·.i), [], []⟩ := by
  unfold told
  rw [foldl_addS_fresh l [] hn (by simp)]
  have : (l.map fun e => (e.i, e.h, e.h)) = (l.map (·.i)).map fun i => (i, (1 : Int), (1 : Int)) := by
    rw [List.map_map]
    refine List.map_congr_left fun e he => ?_
    simp [h1 e he]
  rw [List.nil_append, this]
  unfold toldS
  rw [foldl_told_made]
  simp

theorem logF_since (m k i : Nat) (hi : ¬ i < k - m) (hk : i ≤ k) : ∃ l : List Int, l.length = k - i ∧ (logF m k).since 2 i k 0 = ⟨⟨l, [], []⟩, k, false, 0⟩ := by
  have hfilt : (logF m k).es.filter (takes 2 i k) = (allF k).drop i := by
    have hsplit : (allF k).drop (k - m) = ((allF k).drop (k - m)).take (i - (k - m)) ++ (allF k).drop i := by
      conv => lhs; rw [← List.take_append_drop (i - (k - m)) ((allF k).drop (k - m))]
      rw [List.drop_drop, show k - m + (i - (k - m)) = i from by omega]
    show ((allF k).drop (k - m)).filter _ = _
    rw [hsplit, List.filter_append, List.filter_eq_nil_iff.2, List.filter_eq_self.2, List.nil_append]
    · intro e he
      obtain ⟨j, hj, rfl⟩ := List.mem_iff_getElem.1 he
      rw [List.getElem_drop]
      rw [List.length_drop, allF_length] at hj
      simp only [takes, allF, eeF, List.getElem_map, List.getElem_range, beq_self_eq_true, Bool.true_and, Bool.and_eq_true, decide_eq_true_eq]
      omega
    · intro e he
      obtain ⟨j, hj, rfl⟩ := List.mem_iff_getElem.1 he
      rw [List.getElem_take, List.getElem_drop]
      rw [List.length_take, List.length_drop, allF_length] at hj
      simp only [takes, allF, eeF, List.getElem_map, List.getElem_range, beq_self_eq_true, Bool.true_and, Bool.and_eq_true, decide_eq_true_eq]
      omega
  have hmap : ((allF k).drop i).map (·.i) = ((List.range k).map fun j => ((j + 1 : Nat) : Int)).drop i := by
    rw [← List.map_drop, allF, ← List.map_drop, List.map_map]
    rfl
  refine ⟨((allF k).drop i).map (·.i), by rw [List.length_map, List.length_drop, allF_length], ?_⟩
  rw [since_all _ _ _ _ _ (by decide) (by simp only [logF]; omega) (by omega), hfilt, told_made]
  · rw [hmap]
    refine List.Nodup.sublist (List.drop_sublist _ _) ?_
    rw [List.nodup_iff_pairwise_ne, List.pairwise_map]
    exact List.nodup_range.imp fun h h2 => h (by omega)
  · intro e he
    have h2 := List.mem_of_mem_drop he
    simp only [allF, List.mem_map] at h2
    obtain ⟨j, _, rfl⟩ := h2
    rfl

set_option maxRecDepth 100000 in
set_option maxHeartbeats 2000000 in
theorem logFloors_any (n b : Nat) (hn : n ≤ 255) (hb : b ≤ 255) (w : World) : Calls Try.prog 8 #[.int .u8 n, .int .u8 b] w fun e w' => e = .returned (.bool true) ∧ Below w.heap.size w w' := by
  have hN := fun W n => num_any W n
  go_enter Try.func8, Try.ntmps8
  go_wp2_with fail
  obtain ⟨m, hm⟩ : ∃ m : Nat, (1 + (b : Int) % 20) = m := ⟨1 + b % 20, by omega⟩
  have hm1 : 1 ≤ m := by omega
  have hm2 : m ≤ 20 := by omega
  rw [hm]
  clear hm hb
  have h1 := new_ok m w (by omega)
  go_wp2_with (first
    | (go_at_call 19; refine h1.mono ?_; rintro e w1 ⟨rfl, hl, hb, hlt⟩; have HU := Lib.hid (OwnLog.new hl hb); clear hl hb h1 hlt)
    | (go_at_call 20; refine (hN _ _).mono ?_; rintro e wn ⟨rfl, rfl⟩)
    | fail)
  have hlen : ∀ c, c ≤ 256 → (logF m c).es.length ≤ 1099511627776 := fun c hc => by
    simp only [logF, List.length_drop, allF_length]
    omega
  have hstart : OwnLog w w1 w.heap.size none (logF m 0) := by
    have h1 := HU.out
    simpa [logF, allF] using h1
  have HS := Lib.hid hstart
  clear hstart HU
  go_loopw [9] (fun i wr => ∃ (c : Nat) (h : Option Nat), c ≤ n ∧ i = .int .i64 ((c : Int) + 1) ∧ Hid (OwnLog w wr w.heap.size h (logF m c))) (fun i _ => n + 1 - (intOf i).toNat)
  case atStart => exact ⟨0, none, Nat.zero_le _, rfl, HS⟩
  case round =>
    obtain ⟨c, h, hc, rfl, HU⟩ := hrel
    by_cases hlt : c < n
    · have hA := addO HU.out [eeF (c + 1)] 1 1 #[.int .i64 ((c : Int) + 1), .int .i64 2, .int .i64 ((c : Int) + 1), .int .i64 1] rfl (by simp [flatE, encE, eeF]) (by simp only [logF]; omega) (by simp only [logF]; omega) (hlen c (by omega)) (by omega)
      rw [logF_add m c hm1] at hA
      go_wp2_with (first
        | (go_at_call 21; refine hA.mono ?_; rintro e w2 ⟨rfl, h2, hu⟩; have HU2 := Lib.hid hu; clear hu hA)
        | fail)
      refine ⟨?_, by simp [intOf]; omega⟩
      first | exact ⟨c + 1, _, by omega, by go_num, HU2⟩ | ((repeat apply Exists.intro); exact ⟨⟨c + 1, _, by omega, by go_num, HU2⟩, rfl⟩)
    · have hcn : c = n := by omega
      subst hcn
      have hmx := fun ats ty W => run_max_int (P := Try.prog) ats ty 0 ((c : Int) - m) W
      have hmv : (if 0 < (c : Int) - m then (c : Int) - m else 0) = ((c - m : Nat) : Int) := by
        split <;> omega
      rw [hmv] at hmx
      go_wp2_with fail
      clear hmx hmv
      go_loopw [11] (fun i wr => ∃ (j : Nat), j ≤ c + 1 ∧ i = .int .i64 j ∧ Hid (OwnLog w wr w.heap.size h (logF m c))) (fun i _ => c + 1 - (intOf i).toNat)
      case atStart => exact ⟨0, Nat.zero_le _, rfl, HU⟩
      case round =>
        obtain ⟨j, hj, rfl, HU⟩ := hrel
        by_cases hjc : j ≤ c
        · by_cases hjf : j < c - m
          · have hS := sinceO HU.out 2 j c 0 (hlen c (by omega)) ⟨[], [], []⟩ 0 12 false (since_none _ _ _ _ _ (.inl (by simp only [logF]; omega)))
            go_wp2_with (first
              | (go_at_call 22; refine hS.mono ?_; rintro e w2 ⟨A0, A1, A2, p0, p1, p2, rfl, hu, hb2, _⟩; have HU2 := Lib.hid hu; clear hu hS hb2)
              | (go_at_call 20; refine (hN _ _).mono ?_; rintro e wn ⟨rfl, rfl⟩)
              | fail)
            have HU3 := fun o => Lib.hid (HU2.out.alloc o)
            refine ⟨?_, by simp [intOf]; omega⟩
            first | exact ⟨j + 1, by omega, by go_num, HU3 _⟩ | ((repeat apply Exists.intro); exact ⟨⟨j + 1, by omega, by go_num, HU3 _⟩, rfl⟩)
          · obtain ⟨l, hl, hans⟩ := logF_since m c j hjf hjc
            have hS := sinceO HU.out 2 j c 0 (hlen c (by omega)) ⟨l, [], []⟩ c 0 false hans
            have hw : IntKind.i64.wrap ((c : Int) - (j : Int)) = ((c - j : Nat) : Int) := by
              rw [show (c : Int) - (j : Int) = ((c - j : Nat) : Int) from by omega]
              exact IntWalk.i64_in _ (by omega)
            simp only [hl] at hS
            clear hans
            go_wp2_with (first
              | (go_at_call 22; refine hS.mono ?_; rintro e w2 ⟨A0, A1, A2, p0, p1, p2, rfl, hu, hb2, _⟩; have HU2 := Lib.hid hu; clear hu hS hb2)
              | (go_at_call 20; refine (hN _ _).mono ?_; rintro e wn ⟨rfl, rfl⟩)
              | fail)
            have HU3 := fun o => Lib.hid (HU2.out.alloc o)
            refine ⟨?_, by simp [intOf]; omega⟩
            first | exact ⟨j + 1, by omega, by go_num, HU3 _⟩ | ((repeat apply Exists.intro); exact ⟨⟨j + 1, by omega, by go_num, HU3 _⟩, rfl⟩)
        · have hS := sinceO HU.out 2 ((c : Int) + 1) c 0 (hlen c (by omega)) ⟨[], [], []⟩ 0 12 false (since_none _ _ _ _ _ (.inr (by omega)))
          have hle : (logF m c).es.length = c - (c - m) := by simp only [logF, List.length_drop, allF_length]
          have hmn := fun ats ty W => run_min_int (P := Try.prog) ats ty (c : Int) m W
          have hmv : (if (m : Int) < (c : Int) then (m : Int) else (c : Int)) = ((c - (c - m) : Nat) : Int) := by
            split <;> omega
          rw [hmv] at hmn
          have hAw := fun W => awake17_any W
          clear hmv
          go_wp2_with (first
            | (go_at_call 22; refine hS.mono ?_; rintro e w2 ⟨A0, A1, A2, p0, p1, p2, rfl, hu, hb2, _⟩; have hu3 := hu.alloc (.cells #[.slice A0 0 p0, .slice A1 0 p1, .slice A2 0 p2, .int .i64 0, .bool false] 46); have hF := floor_any _ w.heap.size _ _ hu3.log; have hAl := allO hu3 (Nat.le_trans (hlen c (by omega)) (by omega)) _ hle; clear hu hS hb2 hu3)
            | (go_at_call 28; refine hF.mono ?_; rintro e wn ⟨rfl, rfl⟩; clear hF)
            | (go_at_call 26; refine hAl.mono ?_; rintro e w3 ⟨A3, p3, hh3, rfl, hu3, _, _, _⟩; have HB := Lib.hid hu3.below; clear hu3 hAl)
            | (go_at_call 20; refine (hN _ _).mono ?_; rintro e wn ⟨rfl, rfl⟩)
            | (go_at_call 18; refine (hAw _).mono ?_; rintro e w4 ⟨rfl, hb4⟩; have HB4 := Lib.hid (bthen' HB.out hb4); clear hb4)
            | fail)
          go_ret
          exact ⟨rfl, HB4.out⟩

end Go.Proofs.Ytkgpflobbmagaaa
