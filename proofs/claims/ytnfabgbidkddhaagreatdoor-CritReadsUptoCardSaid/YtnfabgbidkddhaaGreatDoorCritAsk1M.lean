/-
  The walks of crit's keys that ask nothing of the keys behind them.
-/
import Derived.Test.YtnfabgbidkddhaaGreatDoorGRC
import Derived.Test.YtnfabgbidkddhaaGreatDoorGRD
import Derived.Test.YtnfabgbidkddhaaGreatDoorGRE
namespace Go.Proofs.YtnfabgbidkddhaaGreatDoor
open Go.RowKit
attribute [local go_sem ↓] Go.wp_at_zero Go.wp_at_succ

theorem Sl.lit (w : World) (e : TypeId) (cs : List Value) (n : Nat) (hn : cs.length = n) (hm : n ≤ maxLen) : Sl (w.alloc (.cells cs.toArray e)) e 1 (.slice (some ⟨w.heap.size, 0, none⟩) n n) (some w.heap.size) n cs :=
  ⟨by simpa using hn, .inr ⟨_, 0, n, cs.toArray, rfl, rfl, Blk.new _ _ _, Nat.le_refl _, hm, by rw [← hn]; simp, by rw [← hn]; simp⟩⟩

section
variable {w0 w w' : World} {g ob mb : Nat} {uv : Value} {E : CEnv} {ws : List WT} {out : Out} {mod : Bool} {h : Hn}

/-- What a key that has been told hands back. -/
abbrev AOut (w0 w : World) (g ob mb : Nat) (uv : Value) (E : CEnv) (ws : List WT) (out : Out) (mod : Bool) (h : Hn) (a : Ask) : Ending → World → Prop :=
  KOut w0 w g ob mb uv E h (out.length + 3 * szL ws + a.cost) (szL ws + 1) (stepA E a ws out mod)


set_option maxRecDepth 100000 in
set_option maxHeartbeats 2000000 in
theorem says_anyK (s : RAt w0 w g ob mb uv E ws out mod h) {b : Nat} {k : Int} (hB : Blk w b 3 #[.int .i64 k]) (hn : out.length ≤ 1000000000000) :
    Calls Tryz.prog 112 #[.pointer (some ⟨g, 0, none⟩), .pointer (some ⟨b, 0, none⟩)] w (AOut w0 w g ob mb uv E ws out mod h (.says k)) := by
  have hw := word_anyC s
  have HS := Lib.hid s
  have HB := Lib.hid hB
  clear s hB
  go_enter Tryz.func112, Tryz.ntmps112
  go_wp2_with (first
    | (go_at_call 105; refine hw.mono ?_; rintro e w2 ⟨t, ok, ws', rfl, hks, hwp, hsz, hle⟩; have hc : w2.cell? ⟨b, 0, none⟩ = some (.int .i64 k) := (hks.other HS.out HB.out (by decide) (by decide) (by decide) (by decide)).cell 0; have HK := Lib.hid hks; have HW := Lib.hid hwp; have HL := Lib.hid hle; clear hks hwp hle hw)
    | (go_at_call 45; refine (put_anyC HK.out.at_ (tmT k .empty t) (.slice none 0 0) (.slice none 0 0) (TmOk.none _ _ _ rfl rfl) (by omega)).mono ?_; rintro e w3 ⟨h3, rfl, hk3⟩; have HK3 := Lib.hid (HK.out.trans hk3); clear hk3)
    | fail)
  go_ret2
  have h1 := HW.out
  have h2 := HL.out
  refine ⟨_, ok, _, _, _, _, rfl, HK3.out, ?_, ?_, ?_⟩
  · cases ok
    · simp only [Bool.false_eq_true, if_false] at h1
      simp [stepA, h1]
    · simp only [if_true] at h1
      simp [stepA, h1, putP]
  · simp only [List.length_append, List.length_cons, List.length_nil, Ask.cost]
    split at h2 <;> omega
  · split at h2 <;> simp_all <;> omega

set_option maxRecDepth 100000 in
set_option maxHeartbeats 2000000 in
theorem head_anyK (s : RAt w0 w g ob mb uv E ws out mod h) {b : Nat} {k : ByteArray} (hB : Blk w b 9 #[.string k]) (hn : out.length ≤ 1000000000000) :
    Calls Tryz.prog 113 #[.pointer (some ⟨g, 0, none⟩), .pointer (some ⟨b, 0, none⟩)] w (AOut w0 w g ob mb uv E ws out mod h (.head k)) := by
  have hw := word_anyC s
  have HS := Lib.hid s
  have HB := Lib.hid hB
  clear s hB
  go_enter Tryz.func113, Tryz.ntmps113
  go_wp2_with (first
    | (go_at_call 105; refine hw.mono ?_; rintro e w2 ⟨t, ok, ws', rfl, hks, hwp, hsz, hle⟩; have hc : w2.cell? ⟨b, 0, none⟩ = some (.string k) := (hks.other HS.out HB.out (by decide) (by decide) (by decide) (by decide)).cell 0; have HK := Lib.hid hks; have HW := Lib.hid hwp; have HL := Lib.hid hle; clear hks hwp hle hw)
    | (go_at_call 45; refine (put_anyC HK.out.at_ (tmT 12 k t) (.slice none 0 0) (.slice none 0 0) (TmOk.none _ _ _ rfl rfl) (by omega)).mono ?_; rintro e w3 ⟨h3, rfl, hk3⟩; have HK3 := Lib.hid (HK.out.trans hk3); clear hk3)
    | fail)
  go_ret2
  have h1 := HW.out
  have h2 := HL.out
  refine ⟨_, ok, _, _, _, _, rfl, HK3.out, ?_, ?_, ?_⟩
  · cases ok
    · simp only [Bool.false_eq_true, if_false] at h1
      simp [stepA, h1]
    · simp only [if_true] at h1
      simp [stepA, h1, putP]
  · simp only [List.length_append, List.length_cons, List.length_nil, Ask.cost]
    split at h2 <;> omega
  · split at h2 <;> simp_all <;> omega

set_option maxRecDepth 100000 in
set_option maxHeartbeats 2000000 in
theorem has_anyK (s : RAt w0 w g ob mb uv E ws out mod h) {b : Nat} {k : ByteArray} (hB : Blk w b 9 #[.string k]) (hn : out.length ≤ 1000000000000) :
    Calls Tryz.prog 114 #[.pointer (some ⟨g, 0, none⟩), .pointer (some ⟨b, 0, none⟩)] w (AOut w0 w g ob mb uv E ws out mod h (.has k)) := by
  have hp := put_anyC s (tmT 6 .empty k) (.slice none 0 0) (.slice none 0 0) (TmOk.none _ _ _ rfl rfl) (by omega)
  have hp : Calls Tryz.prog 45 #[.pointer (some ⟨g, 0, none⟩), .agg #[.int .i64 6, .int .i64 0, .string ⟨#[]⟩, .string k, .slice none 0 0, .slice none 0 0]] w _ := hp
  have hc : w.cell? ⟨b, 0, none⟩ = some (.string k) := hB.cell 0
  clear s hB
  go_enter Tryz.func114, Tryz.ntmps114
  go_wp2_with (first
    | (go_at_call 45; refine hp.mono ?_; rintro e w3 ⟨h3, rfl, hk3⟩; have HK3 := Lib.hid hk3; clear hk3 hp)
    | fail)
  go_ret2
  refine ⟨_, true, _, _, _, _, rfl, HK3.out, rfl, ?_, ?_⟩
  · simp only [List.length_append, List.length_cons, List.length_nil, Ask.cost]
    omega
  · simp

set_option maxRecDepth 100000 in
set_option maxHeartbeats 2000000 in
theorem time_anyK (s : RAt w0 w g ob mb uv E ws out mod h) (he : EAt w0 uv E) {b : Nat} {k : Int} (hB : Blk w b 3 #[.int .i64 k]) (hn : out.length ≤ 1000000000000) :
    Calls Tryz.prog 110 #[.pointer (some ⟨g, 0, none⟩), .pointer (some ⟨b, 0, none⟩)] w (AOut w0 w g ob mb uv E ws out mod h (.time k)) := by
  have hw := day_anyC s he
  have HS := Lib.hid s
  have HB := Lib.hid hB
  clear s hB he
  go_enter Tryz.func110, Tryz.ntmps110
  go_wp2_with (first
    | (go_at_call 108; refine hw.mono ?_; rintro e w2 ⟨n, ok, ws', rfl, hks, hwp, hn1, hn2, hle⟩; have hc : w2.cell? ⟨b, 0, none⟩ = some (.int .i64 k) := (hks.other HS.out HB.out (by decide) (by decide) (by decide) (by decide)).cell 0; have HK := Lib.hid hks; have HW := Lib.hid hwp; have HL := Lib.hid hle; clear hks hwp hle hw)
    | (go_at_call 45; refine (put_anyC HK.out.at_ (tmN k n) (.slice none 0 0) (.slice none 0 0) (TmOk.none _ _ _ rfl rfl) (by omega)).mono ?_; rintro e w3 ⟨h3, rfl, hk3⟩; have HK3 := Lib.hid (HK.out.trans hk3); clear hk3)
    | fail)
  go_ret2
  have h1 := HW.out
  have h2 := HL.out
  refine ⟨_, ok, _, _, _, _, rfl, HK3.out, ?_, ?_, ?_⟩
  · cases ok
    · simp only [Bool.false_eq_true, if_false] at h1
      simp [stepA, h1]
    · simp only [if_true] at h1
      simp [stepA, h1, putP]
  · simp only [List.length_append, List.length_cons, List.length_nil, Ask.cost]
    split at h2 <;> omega
  · split at h2 <;> simp_all <;> omega

set_option maxRecDepth 100000 in
set_option maxHeartbeats 2000000 in
theorem counts_anyK (s : RAt w0 w g ob mb uv E ws out mod h) {b b2 : Nat} {k m : Int} (hB : Blk w b 3 #[.int .i64 k]) (hB2 : Blk w b2 3 #[.int .i64 m]) (hm : 0 ≤ m ∧ m ≤ 1) (hn : out.length ≤ 1000000000000) :
    Calls Tryz.prog 111 #[.pointer (some ⟨g, 0, none⟩), .pointer (some ⟨b, 0, none⟩), .pointer (some ⟨b2, 0, none⟩)] w (AOut w0 w g ob mb uv E ws out mod h (.counts k m)) := by
  have hw := num_anyC s
  have HS := Lib.hid s
  have HB := Lib.hid hB
  have HB2 := Lib.hid hB2
  obtain ⟨hm1, hm2⟩ := hm
  clear s hB hB2
  go_enter Tryz.func111, Tryz.ntmps111
  go_wp2_with (first
    | (go_at_call 109; refine hw.mono ?_; rintro e w2 ⟨n, ok, ws', rfl, hks, hwp, hn1, hn2, hle⟩; have hc : w2.cell? ⟨b, 0, none⟩ = some (.int .i64 k) := (hks.other HS.out HB.out (by decide) (by decide) (by decide) (by decide)).cell 0; have hc2 : w2.cell? ⟨b2, 0, none⟩ = some (.int .i64 m) := (hks.other HS.out HB2.out (by decide) (by decide) (by decide) (by decide)).cell 0; have HK := Lib.hid hks; have HW := Lib.hid hwp; have HL := Lib.hid hle; clear hks hwp hle hw)
    | (go_at_call 45; refine (put_anyC HK.out.at_ (tmN k (n + m)) (.slice none 0 0) (.slice none 0 0) (TmOk.none _ _ _ rfl rfl) (by omega)).mono ?_; rintro e w3 ⟨h3, rfl, hk3⟩; have HK3 := Lib.hid (HK.out.trans hk3); clear hk3)
    | fail)
  go_ret2
  have h1 := HW.out
  have h2 := HL.out
  refine ⟨_, ok, _, _, _, _, rfl, HK3.out, ?_, ?_, ?_⟩
  · cases ok
    · simp only [Bool.false_eq_true, if_false] at h1
      simp [stepA, h1]
    · simp only [if_true] at h1
      simp [stepA, h1, putP]
  · simp only [List.length_append, List.length_cons, List.length_nil, Ask.cost]
    split at h2 <;> omega
  · split at h2 <;> simp_all <;> omega

set_option maxRecDepth 100000 in
set_option maxHeartbeats 2000000 in
theorem all_anyK (s : RAt w0 w g ob mb uv E ws out mod h) (hn : out.length ≤ 1000000000000) :
    Calls Tryz.prog 66 #[.pointer (some ⟨g, 0, none⟩)] w (AOut w0 w g ob mb uv E ws out mod h .all) := by
  have hp := over_anyC s.refl 1 [] (.slice none 0 0) none (Sl.nil _ _ _) (by simp) (by omega)
  clear s
  go_enter Tryz.func66, Tryz.ntmps66
  go_wp2_with (first
    | (go_at_call 27; refine hp.mono ?_; rintro e w3 ⟨h3, rfl, hk3⟩; have HK3 := Lib.hid hk3; clear hk3 hp)
    | fail)
  go_ret2
  refine ⟨_, true, _, _, _, _, rfl, HK3.out, rfl, ?_, ?_⟩
  · simp only [List.length_append, List.length_cons, List.length_nil, Ask.cost]
    omega
  · simp

set_option maxRecDepth 100000 in
set_option maxHeartbeats 2000000 in
theorem keyword_anyK (s : RAt w0 w g ob mb uv E ws out mod h) (hn : out.length ≤ 1000000000000) :
    Calls Tryz.prog 67 #[.pointer (some ⟨g, 0, none⟩)] w (AOut w0 w g ob mb uv E ws out mod h .keyword) := by
  have hw := word_anyC s
  clear s
  go_enter Tryz.func67, Tryz.ntmps67
  go_wp2_with (first
    | (go_at_call 105; refine hw.mono ?_; rintro e w2 ⟨t, ok, ws', rfl, hks, hwp, hsz, hle⟩; have HK := Lib.hid hks; have HW := Lib.hid hwp; have HL := Lib.hid hle; clear hks hwp hle hw)
    | (go_at_call 106; refine (key_any _ _ (by omega)).mono ?_; rintro e w4 ⟨rfl, hb4⟩; have HK4 := Lib.hid (HK.out.below hb4); clear hb4; obtain ⟨kt, hkt⟩ : ∃ kt, kt = keyB t := ⟨_, rfl⟩; have hkt2 : (⟨(keyOf (lowL t.data.toList)).1.toArray⟩ : ByteArray) = kt := hkt.symm; rw [hkt2]; clear hkt2; have HKT := Lib.hid hkt; clear hkt; obtain ⟨is, his⟩ : ∃ is, is = (keyOf (lowL t.data.toList)).2 := ⟨_, rfl⟩; rw [← his]; have HIS := Lib.hid his; clear his; cases ok)
    | (go_at_call 45; refine (put_anyC HK4.out.at_ (tmT 6 .empty kt) (.slice none 0 0) (.slice none 0 0) (TmOk.none _ _ _ rfl rfl) (by omega)).mono ?_; rintro e w3 ⟨h3, rfl, hk3⟩; have HK3 := Lib.hid (HK4.out.trans hk3); clear hk3)
    | fail)
  · go_ret2
    have h1 := HW.out
    have h2 := HL.out
    simp only [Bool.false_eq_true, if_false] at h1 h2
    refine ⟨_, false, _, _, _, _, rfl, HK3.out, ?_, ?_, ?_⟩
    · simp [stepA, h1]
    · simp only [List.length_append, List.length_cons, List.length_nil, Ask.cost]
      omega
    · simp
      omega
  · go_ret2
    have h1 := HW.out
    have h2 := HL.out
    have h3 := HKT.out
    have h4 := HIS.out
    simp only [if_true] at h1 h2
    refine ⟨_, is, _, _, _, _, rfl, HK3.out, ?_, ?_, ?_⟩
    · simp [stepA, h1, ← h4, ← h3, putP]
    · simp only [List.length_append, List.length_cons, List.length_nil, Ask.cost]
      omega
    · split <;> omega

end

end Go.Proofs.YtnfabgbidkddhaaGreatDoor
