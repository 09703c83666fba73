/-
  The walk of crit.keys: the table of the keys, in a map of the call's own.
-/
import Derived.Test.YtnfabgbidkddhaaGreatDoorGRD
import Derived.Deep.QuietTactic
import Derived.Deep.DeepCutAuto
namespace Go.Proofs.YtnfabgbidkddhaaGreatDoor
open Go.RowKit

/-- A map of the call's own, of these keys. -/
def KTab (w0 w : World) (b : Nat) (t : List (ByteArray × Ask)) : Prop := ∃ m, KMap w0 w b m t
/-- .. an entry of it held. -/
def KEnt (w0 w : World) (b : Nat) (t : List (ByteArray × Ask)) (x : ByteArray) (c : Nat) : Prop := ∃ m, EntryAt w b m x c ∧ TabAt w m t ∧ Below w0.heap.size w0 w ∧ w0.heap.size ≤ b
theorem KTab.below {w0 w w' : World} {b : Nat} {t : List (ByteArray × Ask)} (k : KTab w0 w b t) (hb : Below w.heap.size w w') : KTab w0 w' b t := by
  obtain ⟨m, k⟩ := k
  exact ⟨m, k.below hb⟩
theorem KTab.run {w0 w : World} {b : Nat} {t : List (ByteArray × Ask)} (k : KTab w0 w b t) {x : ByteArray} {v : Value} {a : Ask} (hv : AskAt w a v) {t' : List (ByteArray × Ask)} (ht : putS t x a = t') :
    ∃ w', (Instr.mapUpdate 99 (.map (some b)) (.string x) v).run Tryz.prog w = .ok () w' ∧ KTab w0 w' b t' ∧ BKeep w w' := by
  obtain ⟨m, k⟩ := k
  obtain ⟨w', h1, h2, h3⟩ := run_mapUpdate_str (P := Tryz.prog) Tryz.underlying99 Tryz.underlying9 k.map x v
  rw [← ht]
  exact ⟨w', h1, ⟨_, k.put hv h2 h3⟩, BKeep.map k.map h3⟩
theorem zeroAsks (w : World) : (zeroValue 98).run Tryz.prog w = .ok .nilFunc w := by kernel_rfl
theorem KTab.entry {w0 w : World} {b : Nat} {t : List (ByteArray × Ask)} (k : KTab w0 w b t) {x : ByteArray} (hx : getS t x = none) :
    ∃ c w', (Instr.mapEntry 99 (.map (some b)) (.string x)).run Tryz.prog w = .ok (.tuple #[.nilFunc, .int .i64 (c : Nat)]) w' ∧ KEnt w0 w' b t x c ∧ BKeep w w' := by
  obtain ⟨m, k⟩ := k
  have hn : getS m x = none := by
    rcases k.tab.get x with h | ⟨a, v, h, _⟩
    · exact h.2
    · rw [hx] at h
      cases h
  obtain ⟨c, w', h1, h2, h3⟩ := run_mapEntry_str (P := Tryz.prog) Tryz.underlying99 Tryz.underlying9 zeroAsks k.map x hn
  exact ⟨c, w', h1, ⟨m, h2, TabAt.keep (BKeep.map k.map h3) _ _ k.tab, k.bel.trans (h3.below k.bel.size (by simpa using k.lo)), k.lo⟩, BKeep.map k.map h3⟩
theorem KEnt.run {w0 w : World} {b c : Nat} {t : List (ByteArray × Ask)} {x : ByteArray} (k : KEnt w0 w b t x c) {v : Value} {a : Ask} (hv : AskAt w a v) :
    ∃ w', (Instr.entryStore 99 (.map (some b)) (.int .i64 (c : Nat)) v).run Tryz.prog w = .ok () w' ∧ KTab w0 w' b (putS t x a) ∧ BKeep w w' := by
  obtain ⟨m, k1, k2, k3, k4⟩ := k
  obtain ⟨w', h1, h2, h3⟩ := run_entryStore_str (P := Tryz.prog) (t := 99) k1 v
  have hk := BKeep.entry k1 h3
  exact ⟨w', h1, ⟨_, h2, TabAt.keep hk _ _ (TabAt.put hv x m t k2), k3.trans (h3.below k3.size (by simpa using k4)), k4⟩, hk⟩

/-- The table behind so many rounds. -/
def tabN (k : Nat) : List (ByteArray × Ask) := baseTab ++ (flagNames.take k).flatMap flagRows
theorem tabN_step (k : Nat) (hk : k < 5) : ∃ s, flagNames[k]? = some s ∧ getS (tabN k) ⟨s.toArray⟩ = none ∧ putS (putS (tabN k) ⟨s.toArray⟩ (.has ⟨(36 :: s).toArray⟩)) ⟨(117 :: 110 :: s).toArray⟩ (.un (.has ⟨(36 :: s).toArray⟩)) = tabN (k + 1) := by
  rcases k with _ | _ | _ | _ | _ | k
  · exact ⟨_, rfl, by kernel_rfl, by kernel_rfl⟩
  · exact ⟨_, rfl, by kernel_rfl, by kernel_rfl⟩
  · exact ⟨_, rfl, by kernel_rfl, by kernel_rfl⟩
  · exact ⟨_, rfl, by kernel_rfl, by kernel_rfl⟩
  · exact ⟨_, rfl, by kernel_rfl, by kernel_rfl⟩
  · omega

set_option maxRecDepth 100000 in
set_option maxHeartbeats 4000000 in
theorem keys_anyC (w : World) : Calls Tryz.prog 44 #[] w fun e w' => ∃ b, e = .returned (.map (some b)) ∧ KTab w w' b askTab := by
  have hmm := @run_makeMap Tryz.prog
  have HK := Lib.hid (show KTab w (w.alloc (.map #[] 0)) w.heap.size (baseTab.take 0) from ⟨[], MapS.new w, trivial, (Below.refl _ _).alloc (Nat.le_refl _) _, Nat.le_refl _⟩)
  go_enter Tryz.func44, Tryz.ntmps44
  go_wp2_with fail
  obtain ⟨u0, hr0, hk0, _⟩ := HK.out.run (x := ⟨#[97, 108, 108]⟩) (v := .func (.func 66) #[] #[]) (a := .all) (show AskAt _ _ _ from rfl) (t' := baseTab.take 1) (by kernel_rfl)
  rw [hr0]
  have HK := Lib.hid hk0
  clear hr0 hk0
  go_wp2_with fail
  obtain ⟨u1, hr1, hk1, _⟩ := HK.out.run (x := ⟨#[107, 101, 121, 119, 111, 114, 100]⟩) (v := .func (.func 67) #[] #[]) (a := .keyword) (show AskAt _ _ _ from rfl) (t' := baseTab.take 2) (by kernel_rfl)
  rw [hr1]
  have HK := Lib.hid hk1
  clear hr1 hk1
  go_wp2_with (first
    | (go_at_call 68; refine (not_anyC .keyword _ _ rfl).mono ?_; rintro e wn ⟨v2, rfl, hA, hb⟩; have HA2 := Lib.hid hA; have HK := Lib.hid (HK.out.below hb); clear hA hb)
    | fail)
  obtain ⟨u2, hr2, hk2, _⟩ := HK.out.run (x := ⟨#[117, 110, 107, 101, 121, 119, 111, 114, 100]⟩) (show AskAt _ _ _ from HA2.out) (t' := baseTab.take 3) (by kernel_rfl)
  rw [hr2]
  have HK := Lib.hid hk2
  clear hr2 hk2
  go_wp2_with fail
  obtain ⟨u3, hr3, hk3, _⟩ := HK.out.run (x := ⟨#[111, 110]⟩) (v := .func (.func 69) #[] #[]) (a := .on) (show AskAt _ _ _ from rfl) (t' := baseTab.take 4) (by kernel_rfl)
  rw [hr3]
  have HK := Lib.hid hk3
  clear hr3 hk3
  go_wp2_with fail
  obtain ⟨u4, hr4, hk4, _⟩ := HK.out.run (x := ⟨#[104, 101, 97, 100, 101, 114]⟩) (v := .func (.func 70) #[] #[]) (a := .header) (show AskAt _ _ _ from rfl) (t' := baseTab.take 5) (by kernel_rfl)
  rw [hr4]
  have HK := Lib.hid hk4
  clear hr4 hk4
  go_wp2_with fail
  obtain ⟨u5, hr5, hk5, _⟩ := HK.out.run (x := ⟨#[117, 105, 100]⟩) (v := .func (.func 71) #[] #[]) (a := .uid) (show AskAt _ _ _ from rfl) (t' := baseTab.take 6) (by kernel_rfl)
  rw [hr5]
  have HK := Lib.hid hk5
  clear hr5 hk5
  go_wp2_with fail
  obtain ⟨u6, hr6, hk6, _⟩ := HK.out.run (x := ⟨#[109, 111, 100, 115, 101, 113]⟩) (v := .func (.func 72) #[] #[]) (a := .modseq) (show AskAt _ _ _ from rfl) (t' := baseTab.take 7) (by kernel_rfl)
  rw [hr6]
  have HK := Lib.hid hk6
  clear hr6 hk6
  go_wp2_with fail
  obtain ⟨u7, hr7, hk7, _⟩ := HK.out.run (x := ⟨#[110, 111, 116]⟩) (v := .func (.func 73) #[] #[]) (a := .not) (show AskAt _ _ _ from rfl) (t' := baseTab.take 8) (by kernel_rfl)
  rw [hr7]
  have HK := Lib.hid hk7
  clear hr7 hk7
  go_wp2_with fail
  obtain ⟨u8, hr8, hk8, _⟩ := HK.out.run (x := ⟨#[111, 114]⟩) (v := .func (.func 74) #[] #[]) (a := .or) (show AskAt _ _ _ from rfl) (t' := baseTab.take 9) (by kernel_rfl)
  rw [hr8]
  have HK := Lib.hid hk8
  clear hr8 hk8
  go_wp2_with (first
    | (go_at_call 75; refine (time_anyC _ _).mono ?_; rintro e wn ⟨v9, rfl, hA, hb⟩; have HA9 := Lib.hid hA; have HK := Lib.hid (HK.out.below hb); clear hA hb)
    | fail)
  obtain ⟨u9, hr9, hk9, _⟩ := HK.out.run (x := ⟨#[98, 101, 102, 111, 114, 101]⟩) (show AskAt _ _ _ from HA9.out) (t' := baseTab.take 10) (by kernel_rfl)
  rw [hr9]
  have HK := Lib.hid hk9
  clear hr9 hk9
  go_wp2_with (first
    | (go_at_call 75; refine (time_anyC _ _).mono ?_; rintro e wn ⟨v10, rfl, hA, hb⟩; have HA10 := Lib.hid hA; have HK := Lib.hid (HK.out.below hb); clear hA hb)
    | fail)
  obtain ⟨u10, hr10, hk10, _⟩ := HK.out.run (x := ⟨#[115, 105, 110, 99, 101]⟩) (show AskAt _ _ _ from HA10.out) (t' := baseTab.take 11) (by kernel_rfl)
  rw [hr10]
  have HK := Lib.hid hk10
  clear hr10 hk10
  go_wp2_with (first
    | (go_at_call 76; refine (counts_anyC _ _ _).mono ?_; rintro e wn ⟨v11, rfl, hA, hb⟩; have HA11 := Lib.hid hA; have HK := Lib.hid (HK.out.below hb); clear hA hb)
    | fail)
  obtain ⟨u11, hr11, hk11, _⟩ := HK.out.run (x := ⟨#[108, 97, 114, 103, 101, 114]⟩) (show AskAt _ _ _ from HA11.out) (t' := baseTab.take 12) (by kernel_rfl)
  rw [hr11]
  have HK := Lib.hid hk11
  clear hr11 hk11
  go_wp2_with (first
    | (go_at_call 76; refine (counts_anyC _ _ _).mono ?_; rintro e wn ⟨v12, rfl, hA, hb⟩; have HA12 := Lib.hid hA; have HK := Lib.hid (HK.out.below hb); clear hA hb)
    | fail)
  obtain ⟨u12, hr12, hk12, _⟩ := HK.out.run (x := ⟨#[115, 109, 97, 108, 108, 101, 114]⟩) (show AskAt _ _ _ from HA12.out) (t' := baseTab.take 13) (by kernel_rfl)
  rw [hr12]
  have HK := Lib.hid hk12
  clear hr12 hk12
  go_wp2_with (first
    | (go_at_call 77; refine (says_anyC _ _).mono ?_; rintro e wn ⟨v13, rfl, hA, hb⟩; have HA13 := Lib.hid hA; have HK := Lib.hid (HK.out.below hb); clear hA hb)
    | fail)
  obtain ⟨u13, hr13, hk13, _⟩ := HK.out.run (x := ⟨#[98, 111, 100, 121]⟩) (show AskAt _ _ _ from HA13.out) (t' := baseTab.take 14) (by kernel_rfl)
  rw [hr13]
  have HK := Lib.hid hk13
  clear hr13 hk13
  go_wp2_with (first
    | (go_at_call 77; refine (says_anyC _ _).mono ?_; rintro e wn ⟨v14, rfl, hA, hb⟩; have HA14 := Lib.hid hA; have HK := Lib.hid (HK.out.below hb); clear hA hb)
    | fail)
  obtain ⟨u14, hr14, hk14, _⟩ := HK.out.run (x := ⟨#[116, 101, 120, 116]⟩) (show AskAt _ _ _ from HA14.out) (t' := baseTab.take 15) (by kernel_rfl)
  rw [hr14]
  have HK := Lib.hid hk14
  clear hr14 hk14
  go_wp2_with (first
    | (go_at_call 78; refine (head_anyC _ _).mono ?_; rintro e wn ⟨v15, rfl, hA, hb⟩; have HA15 := Lib.hid hA; have HK := Lib.hid (HK.out.below hb); clear hA hb)
    | fail)
  obtain ⟨u15, hr15, hk15, _⟩ := HK.out.run (x := ⟨#[115, 117, 98, 106, 101, 99, 116]⟩) (show AskAt _ _ _ from HA15.out) (t' := baseTab.take 16) (by kernel_rfl)
  rw [hr15]
  have HK := Lib.hid hk15
  clear hr15 hk15
  go_wp2_with (first
    | (go_at_call 78; refine (head_anyC _ _).mono ?_; rintro e wn ⟨v16, rfl, hA, hb⟩; have HA16 := Lib.hid hA; have HK := Lib.hid (HK.out.below hb); clear hA hb)
    | fail)
  obtain ⟨u16, hr16, hk16, _⟩ := HK.out.run (x := ⟨#[102, 114, 111, 109]⟩) (show AskAt _ _ _ from HA16.out) (t' := baseTab.take 17) (by kernel_rfl)
  rw [hr16]
  have HK := Lib.hid hk16
  clear hr16 hk16
  go_wp2_with (first
    | (go_at_call 78; refine (head_anyC _ _).mono ?_; rintro e wn ⟨v17, rfl, hA, hb⟩; have HA17 := Lib.hid hA; have HK := Lib.hid (HK.out.below hb); clear hA hb)
    | fail)
  obtain ⟨u17, hr17, hk17, _⟩ := HK.out.run (x := ⟨#[116, 111]⟩) (show AskAt _ _ _ from HA17.out) (t' := baseTab.take 18) (by kernel_rfl)
  rw [hr17]
  have HK := Lib.hid hk17
  clear hr17 hk17
  go_wp2_with (first
    | (go_at_call 78; refine (head_anyC _ _).mono ?_; rintro e wn ⟨v18, rfl, hA, hb⟩; have HA18 := Lib.hid hA; have HK := Lib.hid (HK.out.below hb); clear hA hb)
    | fail)
  obtain ⟨u18, hr18, hk18, _⟩ := HK.out.run (x := ⟨#[99, 99]⟩) (show AskAt _ _ _ from HA18.out) (t' := baseTab.take 19) (by kernel_rfl)
  rw [hr18]
  have HK := Lib.hid hk18
  clear hr18 hk18
  go_wp2_with fail
  have hcells : ∀ k (hk : k < 5), (u18.alloc (.cells #[.string ⟨#[97, 110, 115, 119, 101, 114, 101, 100]⟩, .string ⟨#[100, 101, 108, 101, 116, 101, 100]⟩, .string ⟨#[100, 114, 97, 102, 116]⟩, .string ⟨#[102, 108, 97, 103, 103, 101, 100]⟩, .string ⟨#[115, 101, 101, 110]⟩] 9)).cell? ⟨u18.heap.size, k, none⟩ = (flagNames[k]?).map fun s => Value.string ⟨s.toArray⟩ := by
    intro k hk
    rw [(Blk.new u18 _ _).cell k]
    rcases k with _ | _ | _ | _ | _ | k
    · rfl
    · rfl
    · rfl
    · rfl
    · rfl
    · omega
  have HC := Lib.hid hcells
  have HB := Lib.hid (Blk.new u18 9 #[.string ⟨#[97, 110, 115, 119, 101, 114, 101, 100]⟩, .string ⟨#[100, 101, 108, 101, 116, 101, 100]⟩, .string ⟨#[100, 114, 97, 102, 116]⟩, .string ⟨#[102, 108, 97, 103, 103, 101, 100]⟩, .string ⟨#[115, 101, 101, 110]⟩])
  have hap : ∀ a b : List UInt8, ByteArray.mk a.toArray ++ ByteArray.mk b.toArray = ByteArray.mk (a ++ b).toArray := fun a b => ByteArray.mk_append_mk a b
  have HK0 := Lib.hid (show KTab w (u18.alloc (.cells #[.string ⟨#[97, 110, 115, 119, 101, 114, 101, 100]⟩, .string ⟨#[100, 101, 108, 101, 116, 101, 100]⟩, .string ⟨#[100, 114, 97, 102, 116]⟩, .string ⟨#[102, 108, 97, 103, 103, 101, 100]⟩, .string ⟨#[115, 101, 101, 110]⟩] 9)) w.heap.size (tabN 0) from (HK.out.below ((Below.refl _ _).alloc (Nat.le_refl _) _)))
  clear hcells HK
  go_loopw [19] (fun i wr => ∃ k : Nat, k ≤ 5 ∧ i = .int .i64 k ∧ Hid (KTab w wr w.heap.size (tabN k)) ∧ Hid (BKeep (u18.alloc (.cells #[.string ⟨#[97, 110, 115, 119, 101, 114, 101, 100]⟩, .string ⟨#[100, 101, 108, 101, 116, 101, 100]⟩, .string ⟨#[100, 114, 97, 102, 116]⟩, .string ⟨#[102, 108, 97, 103, 103, 101, 100]⟩, .string ⟨#[115, 101, 101, 110]⟩] 9)) wr)) (fun i _ => 5 - (intOf i).toNat)
  case atStart => exact ⟨0, by omega, rfl, HK0, Lib.hid fun _ _ _ h => h⟩
  case round =>
    obtain ⟨k, hk, rfl, HK, HE⟩ := hrel
    by_cases hlt : k < 5
    · obtain ⟨s, hs, hn, hp⟩ := tabN_step k hlt
      have hsl : s.length ≤ 8 := by
        rcases k with _ | _ | _ | _ | _ | k
        · injection hs with hs; subst hs; decide
        · injection hs with hs; subst hs; decide
        · injection hs with hs; subst hs; decide
        · injection hs with hs; subst hs; decide
        · injection hs with hs; subst hs; decide
        · omega
      have hc := HC.out k hlt
      rw [hs] at hc
      have hB := HE.out _ _ _ HB.out
      have hc2 := (hB.cell k).trans ((HB.out.cell k).symm.trans hc)
      simp only [Option.map_some] at hc2
      have HN := Lib.hid hn
      have HP := Lib.hid hp
      clear hn hp hs hc hB HC
      go_wp2_with (first
        | (go_at_call 79; refine (has_anyC _ _).mono ?_; rintro e wn ⟨va, rfl, hA, hb⟩; have HA := Lib.hid hA; have HK1 := Lib.hid (HK.out.below hb); have HE1 := Lib.hid (fun g t cs (h : Blk _ g t cs) => BKeep.below hb g t cs (HE.out g t cs h)); clear hA hb HK HE)
        | (go_at_call 79; refine (has_anyC _ _).mono ?_; rintro e wn ⟨vb, rfl, hA, hb⟩; have HA1 := Lib.hid (AskAt.keep (BKeep.below hb) _ _ HA.out); have HB1 := Lib.hid hA; have HK2 := Lib.hid (HK1.out.below hb); have HE2 := Lib.hid (fun g t cs (h : Blk _ g t cs) => BKeep.below hb g t cs (HE1.out g t cs h)); clear hA hb HK1 HE1 HA)
        | (go_at_call 68; refine (not_anyC _ _ _ HB1.out).mono ?_; rintro e wn ⟨vc, rfl, hA, hb⟩; have HA2 := Lib.hid (AskAt.keep (BKeep.below hb) _ _ HA1.out); have HB2 := Lib.hid hA; have HK3 := Lib.hid (HK2.out.below hb); have HE3 := Lib.hid (fun g t cs (h : Blk _ g t cs) => BKeep.below hb g t cs (HE2.out g t cs h)); clear hA hb HK2 HE2 HB1 HA1)
        | fail)
      obtain ⟨c, w5, hr, hk5, hb5⟩ := HK3.out.entry HN.out
      rw [hr]
      have HK5 := Lib.hid hk5
      have HB5 := Lib.hid hb5
      clear hr hk5 hb5
      go_wp2_with fail
      obtain ⟨w6, hr, hk6, hb6⟩ := HK5.out.run (AskAt.keep HB5.out _ _ HA2.out)
      rw [hr]
      have HK6 := Lib.hid hk6
      have HB6 := Lib.hid hb6
      clear hr hk6 hb6
      go_wp2_with fail
      obtain ⟨w7, hr, hk7, hb7⟩ := HK6.out.run (AskAt.keep HB6.out _ _ (AskAt.keep HB5.out _ _ HB2.out)) HP.out
      rw [hr]
      have HK7 := Lib.hid hk7
      have HE7 := Lib.hid (show BKeep _ w7 from fun g t cs h => hb7 g t cs (HB6.out g t cs (HB5.out g t cs (HE3.out g t cs h))))
      clear hr hk7 hb7
      go_wp2_with fail
      refine ⟨?_, by simp [intOf]; omega⟩
      first | exact ⟨k + 1, by omega, by go_num, HK7, HE7⟩ | ((repeat apply Exists.intro); exact ⟨⟨k + 1, by omega, by go_num, HK7, HE7⟩, rfl⟩)
    · have hk5 : k = 5 := by omega
      subst hk5
      go_wp2
      go_ret
      exact ⟨_, rfl, HK.out⟩

end Go.Proofs.YtnfabgbidkddhaaGreatDoor
