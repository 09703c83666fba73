/-
  The walk of text.Atom: whether a text is an atom; the world is as it was.
-/
import Derived.Test.YtnfabgbidkddhaaDoorPlain
import Derived.Test.YtnfabgbidkddhaaDoorShelf
import Derived.Test.YtnfabgbidkddhaaDoorKit
import Derived.Deep.QuietTactic
import Derived.BigQuiet
namespace Go.Proofs.YtnfabgbidkddhaaDoor
open Go.RowKit

def specials : ByteArray := ⟨#[40, 41, 123, 125, 37, 42, 34, 92, 93]⟩
/-- Where among the signs that no atom has. -/
def specIx (c : UInt8) : Int := Lib.indexByte specials.data.toList c
def atomB (c : UInt8) : Bool := decide (33 ≤ (c.toNat : Int)) && decide ((c.toNat : Int) ≤ 126) && decide (specIx c < 0)
def atomL (l : List UInt8) : Bool := l.all atomB && !l.isEmpty

theorem spec_call (c : UInt8) (w : World) : Calls Tryd.prog 87 #[.string specials, .int .u8 (c.toNat : Int)] w fun e w' => e = .returned (.int .i64 (specIx c)) ∧ w = w' := by
  have h := Tryd.strings_IndexByte specials (c.toNat : Int) w
  have e : ((c.toNat : Int).toNat).toUInt8 = c := by simp
  rw [e] at h
  exact h.mono fun _ _ ⟨h1, h2⟩ => ⟨h1, h2.symm⟩

theorem atom_no (s : ByteArray) (k : Nat) (h : k < s.size) (hc : atomB s[k] = false) : atomL s.data.toList = false := by
  unfold atomL
  have : s.data.toList.all atomB = false := by
    rw [List.all_eq_false]
    exact ⟨s[k], by show s.data[k] ∈ _; simp, by simp [hc]⟩
  simp [this]
theorem atom_take (s : ByteArray) (k : Nat) (h : k < s.size) (h0 : (s.data.toList.take k).all atomB = true) (hc : atomB s[k] = true) : (s.data.toList.take (k + 1)).all atomB = true := by
  rw [take_snocB s k h]
  simp only [List.all_append, h0, Bool.true_and]
  simp [hc]

set_option maxRecDepth 100000 in
set_option maxHeartbeats 400000 in
theorem atom_any (s : ByteArray) (w : World) (hs : s.size ≤ 140737488351232) :
    Calls Tryd.prog 76 #[.string s] w fun e w' => e = .returned (.bool (atomL s.data.toList)) ∧ w = w' := by
  obtain ⟨b, hb⟩ : ∃ b, atomL s.data.toList = b := ⟨_, rfl⟩
  rw [hb]
  have HB0 := Lib.hid hb
  clear hb
  go_enter Tryd.func76, Tryd.ntmps76
  go_wp2_with fail
  go_loop [6] (fun i => ∃ k : Nat, k ≤ s.size ∧ i = .int .i64 k ∧ Hid ((s.data.toList.take k).all atomB = true)) (fun i => s.size - (intOf i).toNat)
  case atStart => exact ⟨0, Nat.zero_le _, rfl, rfl⟩
  case round =>
    obtain ⟨k, hk, rfl, hall⟩ := hrel
    by_cases hlt : k < s.size
    · have H := Lib.hid hall
      clear hall
      by_cases h1 : (s[k].toNat : Int) < 33
      · have hn := Lib.hid (HB0.out.symm.trans (atom_no s k hlt (by simp [atomB]; omega)))
        go_wp2_with fail
        go_ret
        exact ⟨ret_bool hn.out.symm, rfl⟩
      · by_cases h2 : 126 < (s[k].toNat : Int)
        · have hn := Lib.hid (HB0.out.symm.trans (atom_no s k hlt (by simp [atomB]; omega)))
          go_wp2_with fail
          go_ret
          exact ⟨ret_bool hn.out.symm, rfl⟩
        · have hcall := spec_call s[k]
          have hB : atomB s[k] = decide (specIx s[k] < 0) := by
            unfold atomB
            rw [decide_eq_true (by omega), decide_eq_true (by omega)]
            rfl
          have HB := Lib.hid hB
          clear hB
          generalize specIx s[k] = r at hcall HB
          by_cases h3 : r < 0
          · go_wp2_with (go_at_call 87; refine (hcall _).mono ?_; rintro e w' ⟨rfl, rfl⟩)
            go_round
            case rel => exact ⟨k + 1, by omega, by go_num, atom_take s k hlt H.out (by rw [HB.out]; exact decide_eq_true h3)⟩
            case measure => simp [intOf]; omega
          · have hn := Lib.hid (HB0.out.symm.trans (atom_no s k hlt (by rw [HB.out]; exact decide_eq_false h3)))
            go_wp2_with (go_at_call 87; refine (hcall _).mono ?_; rintro e w' ⟨rfl, rfl⟩)
            go_ret
            exact ⟨ret_bool hn.out.symm, rfl⟩
    · have hk2 : k = s.size := by omega
      subst hk2
      have hfin : b = !s.data.toList.isEmpty := by
        rw [← HB0.out]
        unfold atomL
        rw [take_allB s _ (Nat.le_refl _)] at hall
        rw [hall.out]
        rfl
      have H := Lib.hid hfin
      clear hfin hall
      go_wp2_with fail
      go_ret
      exact ⟨ret_bool (by rw [H.out, ← ByteArray.toList_eq]), rfl⟩

end Go.Proofs.YtnfabgbidkddhaaDoor
