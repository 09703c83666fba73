/-
  The walks of crit's over, word, number.
-/
import Derived.Test.YtnfabgbidkddhaaGreatDoorCritPutM
namespace Go.Proofs.YtnfabgbidkddhaaGreatDoor
open Go.RowKit
attribute [local go_sem ↓] Go.wp_at_zero Go.wp_at_succ

section
variable {w0 w w' : World} {g ob mb : Nat} {uv : Value} {E : CEnv} {ws : List WT} {out : Out} {mod : Bool} {h : Hn}

set_option maxRecDepth 100000 in
set_option maxHeartbeats 1000000 in
theorem over_anyC {wS : World} {h0 : Hn} (k0 : KSt w0 wS w g ob mb uv E h0 ws out mod h) (kind : Int) (kids : List Int) (kv : Value) (hk : Option Nat) (hks : Sl w 3 1 kv hk kids.length (intC kids)) (hown : ∀ b, hk = some b → wS.heap.size ≤ b) (hn : out.length ≤ 1099511627776) :
    Calls Tryz.prog 27 #[.pointer (some ⟨g, 0, none⟩), .int .i64 kind, kv] w
      fun e w' => ∃ h', e = .returned (.int .i64 (out.length : Nat)) ∧ KSt w0 wS w' g ob mb uv E h0 ws (out ++ [tmK kind kids]) mod h' := by
  have hp := putF_anyC k0.at_ (tmK kind kids) (.slice none 0 0) kv (F := fun b => h.f b ∨ hk = some b) (fun _ h => .inl h) (fun b hb => hb.elim (k0.at_.fl b) fun e => hks.lt b e) ⟨⟨none, Sl.nil _ _ _⟩, ⟨hk, hks, fun b hb => .inr hb⟩⟩ hn
  have hp : Calls Tryz.prog 45 #[.pointer (some ⟨g, 0, none⟩), .agg #[.int .i64 kind, .int .i64 0, .string ⟨#[]⟩, .string ⟨#[]⟩, .slice none 0 0, kv]] w _ := hp
  have HK0 := Lib.hid k0
  have HOWN := Lib.hid hown
  obtain ⟨A, n, c, rfl⟩ : ∃ A n c, kv = .slice A n c := by
    obtain ⟨A, c, h1, _⟩ := hks.form
    exact ⟨A, _, c, h1⟩
  clear k0 hks hn hown
  go_enter Tryz.func27, Tryz.ntmps27
  go_wp2_with (first
    | (go_at_call 45; refine hp.mono ?_; rintro e w2 ⟨h', rfl, hks⟩; have HKS := Lib.hid (HK0.out.putting hks fun b hb => hb.elim .inl fun e => .inr (HOWN.out b e)); clear hks hp)
    | fail)
  go_ret
  exact ⟨_, rfl, HKS.out⟩

/-- What the next word is. -/
def WordOut (w0 w : World) (g ob mb : Nat) (uv : Value) (E : CEnv) (ws : List WT) (out : Out) (mod : Bool) (h : Hn) (e : Ending) (w' : World) : Prop :=
  ∃ s ok ws', e = .returned (.tuple #[.string s, .bool ok]) ∧ KSt w0 w w' g ob mb uv E h ws' out mod h ∧ wordP ws = (if ok = true then some (s, ws') else none) ∧ s.size ≤ 1100 ∧ szL ws' + (if ok = true then 1 else 0) ≤ szL ws

set_option maxRecDepth 100000 in
set_option maxHeartbeats 2000000 in
theorem word_anyC (s : RAt w0 w g ob mb uv E ws out mod h) :
    Calls Tryz.prog 105 #[.pointer (some ⟨g, 0, none⟩)] w (WordOut w0 w g ob mb uv E ws out mod h) := by
  obtain ⟨wv, hg, hw⟩ := s.rd
  have HS := Lib.hid s
  cases ws with
  | nil =>
    obtain ⟨A, cap, rfl, _, _⟩ := hw.form
    have e0 : w.cell? ⟨g, 0, none⟩ = some (.slice A 0 cap) := hg.cell 0
    clear s hg hw
    go_enter Tryz.func105, Tryz.ntmps105
    go_wp2
    go_ret2
    exact ⟨_, _, _, rfl, HS.out.refl, rfl, by decide, by simp⟩
  | cons t ts =>
    obtain ⟨k, tx, kids⟩ := t
    obtain ⟨b, off, cap, u, rfl, hc1, hc2, hbl, d0, d1, d2, hu, hrest⟩ := hw.head
    have e0 : w.cell? ⟨g, 0, none⟩ = some (.slice (some ⟨b, off, none⟩) (ts.length + 1) cap) := hg.cell 0
    have ef : w.frozen? ⟨g, 0, none⟩ = false := hg.frozen 0
    have d0' : w.cell? ⟨b, off, none⟩ = some (.int .i64 k) := (s.bel.cell (p := ⟨b, off, none⟩) hbl).trans d0
    have d1' : w.cell? ⟨b, off + 1, none⟩ = some (.string tx) := (s.bel.cell (p := ⟨b, off + 1, none⟩) hbl).trans d1
    have hok := s.ok
    unfold okL okW at hok
    obtain ⟨⟨hok1, hok2⟩, hok3⟩ := hok
    have HREST := Lib.hid hrest
    have HOK := Lib.hid hok3
    have HSZ := Lib.hid hok1
    have hlen : (ts.length : Int) + 1 = ((ts.length + 1 : Nat) : Int) := rfl
    by_cases hk3 : k = 3
    · subst hk3
      clear s hg hw d0 d1 d2 hu hrest hok1 hok2 hok3 hlen
      go_enter Tryz.func105, Tryz.ntmps105
      go_wp2
      go_ret2
      refine ⟨_, _, _, rfl, HS.out.refl, ?_, by decide, ?_⟩
      · simp [wordP]
      · simp
    · clear s hg hw d0 d1 d2 hu hrest hok1 hok2 hok3 hlen
      generalize hL : ts.length = L at e0 HREST hc1
      have HL := Lib.hid hL
      clear hL
      have hres : ∀ v, WsAt w0 v ts → WordOut w0 w g ob mb uv E (.mk k tx kids :: ts) out mod h (.returned (.tuple #[.string tx, .bool true])) (w.setCell ⟨g, 0, none⟩ v) := fun v hv =>
        ⟨tx, true, ts, rfl, HS.out.take hv HOK.out, by simp [wordP, hk3], HSZ.out, by simp [szL, szW]; omega⟩
      have HRES := Lib.hid hres
      clear hres
      by_cases hcap : cap - 1 = 0
      · rw [if_pos hcap] at HREST
        obtain rfl : cap = 1 := by omega
        obtain rfl : L = 0 := by omega
        go_enter Tryz.func105, Tryz.ntmps105
        go_wp2
        go_ret2
        exact HRES.out _ HREST.out
      · rw [if_neg hcap] at HREST
        have f1 : (((L : Nat) : Int) + 1 == 0) = false := by simp; omega
        have f2 : (k == 3) = false := by simpa using hk3
        go_enter Tryz.func105, Tryz.ntmps105
        go_wp2
        go_ret2
        exact HRES.out _ HREST.out
end

end Go.Proofs.YtnfabgbidkddhaaGreatDoor
