/-
  The walks of the reference's search: text, num, key, head, uidset.
-/
import Derived.Test.YtnfabgbidkddhaaGreatDoorSrchWM
import Derived.Test.YtnfabgbidkddhaaGreatDoorGCT
import Derived.Test.YtnfabgbidkddhaaGreatDoorGRG
import Derived.Test.YtnfabgbidkddhaaGreatDoorGRU
import Derived.Test.YtnfabgbidkddhaaGreatDoorGRC
namespace Go.Proofs.YtnfabgbidkddhaaGreatDoor
open Go.RowKit
attribute [local go_sem ↓] Go.wp_at_zero Go.wp_at_succ

section
variable {w0 w w' wS : World} {g : Nat} {uv : Value} {E : CEnv} {ws : List WT} {out out' : Out} {mod bad : Bool} {h h0 : Hn}

/-- The next word's text: a fault where there is none. -/
def TextOut (w0 wS : World) (g : Nat) (uv : Value) (E : CEnv) (ws : List WT) (out : Out) (mod bad : Bool) (h0 : Hn) (h : Hn) (e : Ending) (w' : World) : Prop :=
  ∃ s ok ws', e = .returned (.string s) ∧ SSt w0 wS w' g uv E h0 ws' out mod (bad || !ok) h ∧ wordP ws = (if ok = true then some (s, ws') else none) ∧ s.size ≤ 1100 ∧ szL ws' + (if ok = true then 1 else 0) ≤ szL ws

theorem WsAt.mid {w : World} {v : Value} {pre ts : List WT} {t : WT} (h : WsAt w v (pre ++ t :: ts)) : ∃ b off cap u, v = .slice (some ⟨b, off, none⟩) (pre.length + (ts.length + 1)) cap ∧ b < w.heap.size ∧
    w.cell? ⟨b, off + pre.length * 3, none⟩ = some (.int .i64 t.kind) ∧ w.cell? ⟨b, off + pre.length * 3 + 1, none⟩ = some (.string t.text) ∧ w.cell? ⟨b, off + pre.length * 3 + 2, none⟩ = some u ∧ WsAt w u t.kids := by
  obtain ⟨b, off, cap, u, h1, h2, h3, h4, h5, h6⟩ := h.at_ pre.length (by simp)
  have e : (pre ++ t :: ts)[pre.length]'(by simp) = t := by simp
  rw [e] at h3 h4 h6
  exact ⟨b, off, cap, u, by rw [h1]; simp, h2, h3, h4, h5, h6⟩
theorem SSt.drewN (k : SSt w0 wS w g uv E h0 ws out mod bad h) (q : Nat) : SSt w0 wS (w.drewN q) g uv E h0 ws out mod bad h := k.below ⟨rfl, rfl, rfl, Nat.le_refl _, fun _ _ => rfl⟩

theorem SAt.setget (s : SAt w0 w g uv E ws out mod bad h) (i : Nat) (hi : i < 7) (v : Value) : (w.setCell ⟨g, i, none⟩ v).cell? ⟨g, i, none⟩ = some v := by
  obtain ⟨wv, fv, xs, pre, hg, _, _, _⟩ := s.rd
  rw [(hg.set i v).cell i]
  match i, hi with
  | 0, _ => rfl
  | 1, _ => rfl
  | 2, _ => rfl
  | 3, _ => rfl
  | 4, _ => rfl
  | 5, _ => rfl
  | 6, _ => rfl

set_option maxRecDepth 100000 in
set_option maxHeartbeats 2000000 in
theorem text_anyS (k0 : SSt w0 wS w g uv E h0 ws out mod bad h) :
    Calls Tryz.prog 84 #[.pointer (some ⟨g, 0, none⟩)] w (TextOut w0 wS g uv E ws out mod bad h0 h) := by
  have s := k0.at_
  obtain ⟨wv, A, cap, pre, hw, e0, e1, e2, e3, e4, e5, e6, ef, hgl⟩ := s.cells
  have f1 := ef 1 (by omega)
  have f6 := ef 6 (by omega)
  have HBADS : Hid (∀ q, SSt w0 wS ((w.drewN q).setCell ⟨g, 6, none⟩ (.bool true)) g uv E h0 ws out mod true h) := Lib.hid fun q => (k0.drewN q).trans ((k0.drewN q).at_.setBad true)
  cases ws with
  | nil =>
    rw [List.append_nil] at hw
    obtain ⟨Aw, cw, rfl, _, _⟩ := hw.form
    generalize pre.length = i at *
    clear s k0 hw ef
    go_enter Tryz.func84, Tryz.ntmps84
    go_upto_region 1 with (fail)
    go_quiet (fail)
    go_wp2
    go_ret
    exact ⟨_, false, [], rfl, by simpa using HBADS.out _, rfl, by decide, by simp⟩
  | cons t ts =>
    obtain ⟨k, tx, kids⟩ := t
    obtain ⟨b, off, capw, u, rfl, hbl, d0, d1, d2, hu⟩ := hw.mid
    have d0' : w.cell? ⟨b, off + pre.length * 3, none⟩ = some (.int .i64 k) := (s.bel.cell (p := ⟨b, off + pre.length * 3, none⟩) hbl).trans d0
    have d1' : w.cell? ⟨b, off + pre.length * 3 + 1, none⟩ = some (.string tx) := (s.bel.cell (p := ⟨b, off + pre.length * 3 + 1, none⟩) hbl).trans d1
    have hok := s.ok
    unfold okL okW at hok
    obtain ⟨⟨hok1, hok2⟩, hok3⟩ := hok
    have HSZ := Lib.hid hok1
    have hbg : g ≠ b := by
      have := s.lo.1
      omega
    obtain ⟨Ac, cc, hfm, hcc1, hcc2⟩ := hw.form
    have hNb : pre.length + (ts.length + 1) ≤ 9223372036854775807 := by
      injection hfm with q1 q2 q3
      unfold maxLen at hcc2
      omega
    clear hfm hcc1 hcc2
    have hTK : ∀ q, SSt w0 wS ((w.drewN q).setCell ⟨g, 1, none⟩ (.int .i64 (((pre.length : Nat) : Int) + 1))) g uv E h0 ts out mod bad h := fun q => (k0.drewN q).trans ((k0.drewN q).at_.take _ e1)
    have HTK := Lib.hid hTK
    have HSG := Lib.hid fun q v => (k0.drewN q).at_.setget 1 (by omega) v
    have hil : pre.length < pre.length + (ts.length + 1) := by omega
    generalize pre.length + (ts.length + 1) = N at *
    generalize pre.length = i at *
    have c1 : decide (N ≤ i) = false := by simp; omega
    have i1 : (i : Int) < N := by omega
    have i0 : (0 : Int) ≤ (i : Int) := by omega
    by_cases hk3 : k = 3
    · subst hk3
      clear s k0 hw ef d0 d1 d2 hu hok1 hok2 hok3 hTK
      go_enter Tryz.func84, Tryz.ntmps84
      go_upto_region 1 with (fail)
      go_quiet (fail)
      go_wp2
      go_ret
      exact ⟨_, false, _, rfl, by simpa using HBADS.out _, by simp [wordP], by decide, by simp⟩
    · have k3 : (k == 3) = false := by simpa using hk3
      have w1 : wrap64 ((i : Int) + 1) = (i : Int) + 1 := by unfold wrap64; omega
      have w2 : wrap64 ((i : Int) + 1 - 1) = (i : Int) := by unfold wrap64; omega
      have w3 : (i : Int) + 1 - 1 = (i : Int) := by omega
      clear s k0 hw ef d0 d1 d2 hu hok1 hok2 hok3 hTK
      go_enter Tryz.func84, Tryz.ntmps84
      go_upto_region 1 with (fail)
      go_quiet (fail)
      go_wp2
      have HT := Lib.hid (HTK.out nq)
      have v0 : ((w.drewN nq).setCell ⟨g, 1, none⟩ (.int .i64 ((i : Int) + 1))).cell? ⟨g, 0, none⟩ = some (.slice (some ⟨b, off, none⟩) N capw) := by simp [World.cell?_setCell_other, e0]
      have v1 := HSG.out nq (.int .i64 ((i : Int) + 1))
      have v2 : ((w.drewN nq).setCell ⟨g, 1, none⟩ (.int .i64 ((i : Int) + 1))).cell? ⟨b, off + i * 3 + 1, none⟩ = some (.string tx) := by simp [World.cell?_setCell_other, d1']
      generalize (w.drewN nq).setCell ⟨g, 1, none⟩ (.int .i64 ((i : Int) + 1)) = V at *
      clear e0 e1 e2 e3 e4 e5 e6 f1 f6 d0' d1'
      go_quiet (fail)
      go_wp2
      go_ret
      exact ⟨tx, true, ts, rfl, by simpa using HT.out.drewN _, by simp [wordP, hk3], HSZ.out, by simp [szL, szW]; omega⟩

theorem SSt.cast {b b' : Bool} (k : SSt w0 wS w g uv E h0 ws out mod b h) (e : b = b') : SSt w0 wS w g uv E h0 ws out mod b' h := e ▸ k

/-- A number, out of the next word. -/
def NumOutS (w0 wS : World) (g : Nat) (uv : Value) (E : CEnv) (ws : List WT) (out : Out) (mod bad : Bool) (h0 h : Hn) (f : List WT → Option (Int × List WT)) (e : Ending) (w' : World) : Prop :=
  ∃ n ok ws', e = .returned (.int .i64 n) ∧ SSt w0 wS w' g uv E h0 ws' out mod (bad || !ok) h ∧ f ws = (if ok = true then some (n, ws') else none) ∧ -1000000000000 ≤ n ∧ n ≤ 1000000000000 ∧ szL ws' + (if ok = true then 1 else 0) ≤ szL ws

set_option maxRecDepth 100000 in
set_option maxHeartbeats 2000000 in
theorem num_anyS (k0 : SSt w0 wS w g uv E h0 ws out mod bad h) :
    Calls Tryz.prog 86 #[.pointer (some ⟨g, 0, none⟩)] w (NumOutS w0 wS g uv E ws out mod bad h0 h numP) := by
  have hw := text_anyS k0
  clear k0
  go_enter Tryz.func86, Tryz.ntmps86
  go_wp2_with (first
    | (go_at_call 84; refine hw.mono ?_; rintro e w2 ⟨t, ok, ws', rfl, hks, hwp, hsz, hle⟩; have HW := Lib.hid hwp; have HL := Lib.hid hle; obtain ⟨B, hB⟩ : ∃ B, (bad || !ok) = B := ⟨_, rfl⟩; rw [hB] at hks; have HB := Lib.hid hB; have HK := Lib.hid hks; obtain ⟨_, _, _, _, _, _, _, _, _, _, _, e6, ef, hgl⟩ := hks.at_.cells; have f6 := ef 6 (by omega); clear hks hwp hle hw hB ef)
    | (go_at_call 120; refine (refNumber_any _ _ (by omega)).mono ?_; rintro e w3 ⟨rfl, rfl⟩; have hr := numberL_rng t.data.toList; have HR := Lib.hid hr; clear hr; obtain ⟨nn, hnn⟩ : ∃ nn, nn = numberL t.data.toList := ⟨_, rfl⟩; rw [← hnn] at HR ⊢; have HNN := Lib.hid hnn; clear hnn; obtain ⟨n, is⟩ := nn; simp only at HR ⊢; cases B <;> cases is)
    | fail)
  all_goals
    go_ret
    refine ⟨n, ok && (numberL t.data.toList).2, ws', rfl, (HK.out.trans (HK.out.at_.setBad _)).cast ?_, ?_, ?_, ?_, ?_⟩
    · have h1 := HB.out
      have h2 := HNN.out
      rw [← h2]
      cases bad <;> cases ok <;> simp_all
    · have h1 := HW.out
      have h2 := HNN.out
      cases ok
      · simp only [Bool.false_eq_true, if_false] at h1
        simp [numP, h1]
      · simp only [if_true] at h1
        simp [numP, h1, ← h2]
    · have := HR.out
      omega
    · have := HR.out
      omega
    · have := HL.out
      have h2 := HNN.out
      rw [← h2]
      cases ok <;> simp at this ⊢ <;> omega

set_option maxRecDepth 100000 in
set_option maxHeartbeats 2000000 in
theorem day_anyS (k0 : SSt w0 wS w g uv E h0 ws out mod bad h) :
    Calls Tryz.prog 85 #[.pointer (some ⟨g, 0, none⟩)] w (NumOutS w0 wS g uv E ws out mod bad h0 h dayP) := by
  have hw := text_anyS k0
  clear k0
  go_enter Tryz.func85, Tryz.ntmps85
  go_wp2_with (first
    | (go_at_call 84; refine hw.mono ?_; rintro e w2 ⟨t, ok, ws', rfl, hks, hwp, hsz, hle⟩; have HW := Lib.hid hwp; have HL := Lib.hid hle; obtain ⟨B, hB⟩ : ∃ B, (bad || !ok) = B := ⟨_, rfl⟩; rw [hB] at hks; have HB := Lib.hid hB; have HK := Lib.hid hks; clear hks hwp hle hw hB)
    | (go_at_call 119; refine (readDay_anyR _ _ (by omega)).mono ?_; rintro e w3 ⟨rfl, hb3⟩; have HK3 := Lib.hid (HK.out.below hb3); obtain ⟨_, _, _, _, _, _, _, _, _, _, _, e6, ef, hgl⟩ := HK3.out.at_.cells; have f6 := ef 6 (by omega); clear ef hb3; have hr := dayL_rng t.data.toList; have HR := Lib.hid hr; clear hr; obtain ⟨nn, hnn⟩ : ∃ nn, nn = dayL t.data.toList := ⟨_, rfl⟩; rw [← hnn] at HR ⊢; have HNN := Lib.hid hnn; clear hnn; obtain ⟨n, er⟩ := nn; simp only at HR ⊢; obtain ⟨is, his⟩ : ∃ is, (er == 0) = is := ⟨_, rfl⟩; have h9 : (er != 0) = !is := (by rw [← his]; rfl); have HIS := Lib.hid his; clear his; cases B <;> cases is)
    | fail)
  all_goals
    go_ret
    refine ⟨n, ok && (er == 0), ws', rfl, (HK3.out.trans (HK3.out.at_.setBad _)).cast ?_, ?_, ?_, ?_, ?_⟩
    · have h1 := HB.out
      have h2 := HIS.out
      rw [h2]
      cases bad <;> cases ok <;> simp_all
    · have h1 := HW.out
      have h2 := HNN.out
      cases ok
      · simp only [Bool.false_eq_true, if_false] at h1
        simp [dayP, h1]
      · simp only [if_true] at h1
        simp [dayP, h1, ← h2]
    · exact HR.out.1
    · exact HR.out.2
    · have := HL.out
      have h2 := HIS.out
      rw [h2]
      cases ok <;> simp at this ⊢ <;> omega

/-- A keyword, out of the next word. -/
def KeyOutS (w0 wS : World) (g : Nat) (uv : Value) (E : CEnv) (ws : List WT) (out : Out) (mod bad : Bool) (h0 h : Hn) (e : Ending) (w' : World) : Prop :=
  ∃ s ok ws', e = .returned (.string s) ∧ SSt w0 wS w' g uv E h0 ws' out mod (bad || !ok) h ∧ (match wordP ws with | none => ok = false | some (t, r) => ok = (keyOf (lowL t.data.toList)).2 ∧ (ok = true → s = keyB t ∧ ws' = r)) ∧ szL ws' + (if ok = true then 1 else 0) ≤ szL ws

set_option maxRecDepth 100000 in
set_option maxHeartbeats 2000000 in
theorem key_anyS (k0 : SSt w0 wS w g uv E h0 ws out mod bad h) :
    Calls Tryz.prog 50 #[.pointer (some ⟨g, 0, none⟩)] w (KeyOutS w0 wS g uv E ws out mod bad h0 h) := by
  have hw := text_anyS k0
  clear k0
  go_enter Tryz.func50, Tryz.ntmps50
  go_wp2_with (first
    | (go_at_call 84; refine hw.mono ?_; rintro e w2 ⟨t, ok, ws', rfl, hks, hwp, hsz, hle⟩; have HW := Lib.hid hwp; have HL := Lib.hid hle; obtain ⟨B, hB⟩ : ∃ B, (bad || !ok) = B := ⟨_, rfl⟩; rw [hB] at hks; have HB := Lib.hid hB; have HK := Lib.hid hks; clear hks hwp hle hw hB)
    | (go_at_call 83; refine (refKey_any _ _ (by omega)).mono ?_; rintro e w3 ⟨rfl, hb3⟩; have HK3 := Lib.hid (HK.out.below hb3); obtain ⟨_, _, _, _, _, _, _, _, _, _, _, e6, ef, hgl⟩ := HK3.out.at_.cells; have f6 := ef 6 (by omega); clear ef hb3; obtain ⟨kb, hkb⟩ : ∃ kb, kb = keyB t := ⟨_, rfl⟩; rw [show (⟨(keyOf (lowL t.data.toList)).1.toArray⟩ : ByteArray) = kb from hkb.symm]; have HKB := Lib.hid hkb; clear hkb; obtain ⟨is, his⟩ : ∃ is, (keyOf (lowL t.data.toList)).2 = is := ⟨_, rfl⟩; rw [his]; have HIS := Lib.hid his; clear his; cases B <;> cases is)
    | fail)
  all_goals
    go_ret
    refine ⟨_, ok && (keyOf (lowL t.data.toList)).2, ws', rfl, (HK3.out.trans (HK3.out.at_.setBad _)).cast ?_, ?_, ?_⟩
    · have h1 := HB.out
      have h2 := HIS.out
      rw [h2]
      cases bad <;> cases ok <;> simp_all
    · have h1 := HW.out
      cases ok
      · simp only [Bool.false_eq_true, if_false] at h1
        rw [h1]
        rfl
      · simp only [if_true] at h1
        rw [h1]
        exact ⟨by simp, fun _ => ⟨HKB.out, rfl⟩⟩
    · have := HL.out
      have h2 := HIS.out
      rw [h2]
      cases ok <;> simp at this ⊢ <;> omega

/-- A term of a header, its text the next word. -/
theorem head_anyS (k0 : SSt w0 wS w g uv E h0 ws out mod bad h) (nm : ByteArray) (hn : out.length ≤ 1099511627776) :
    Calls Tryz.prog 87 #[.pointer (some ⟨g, 0, none⟩), .string nm] w fun e w' => ∃ s ok ws' h', e = .returned (.int .i64 (out.length : Nat)) ∧ SSt w0 wS w' g uv E h0 ws' (out ++ [tmT 12 nm s]) mod (bad || !ok) h' ∧ wordP ws = (if ok = true then some (s, ws') else none) ∧ szL ws' + (if ok = true then 1 else 0) ≤ szL ws := by
  have hw := text_anyS k0
  clear k0
  go_enter Tryz.func87, Tryz.ntmps87
  go_wp2_with (first
    | (go_at_call 84; refine hw.mono ?_; rintro e w2 ⟨t, ok, ws', rfl, hks, hwp, hsz, hle⟩; have HW := Lib.hid hwp; have HL := Lib.hid hle; have HK := Lib.hid hks; clear hks hwp hle hw)
    | (go_at_call 29; refine (addN_anyS HK.out (tmT 12 nm t) rfl rfl hn).mono ?_; rintro e w3 ⟨h', rfl, hks⟩; have HK3 := Lib.hid hks; clear hks)
    | fail)
  go_ret
  exact ⟨t, ok, ws', h', rfl, HK3.out, HW.out, HL.out⟩
end

end Go.Proofs.YtnfabgbidkddhaaGreatDoor
