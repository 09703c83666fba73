/-
  The plain law of StoreEnds: appends till the clock, or the mailbox's numbers, are at their end; then what changes nothing.
-/
import Derived.Test.YtmbibhphpjmboaaGreatDoorGC
namespace Go.Proofs.YtmbibhphpjmboaaGreatDoor

theorem headF_x (name : List UInt8) : headF [120] name = [] := by
  have h : (splitF [120]).1 = [] := by decide
  simp [headF, h, firstF]
def endsC (mod uid : Nat) : CfgP := { wideP with maxMod := 2 + (mod % 20 : Nat), maxUid := 1 + (uid % 20 : Nat) }
theorem endsC_ok (mod uid : Nat) : CfgOk (endsC mod uid) := by
  have h1 := Nat.mod_lt mod (show 0 < 20 by decide)
  have h2 := Nat.mod_lt uid (show 0 < 20 by decide)
  refine ⟨wideP_ok.mails, wideP_ok.boxes, wideP_ok.size, ?_, ?_, wideP_ok.log, wideP_ok.get⟩
  · show 1 ≤ 1 + ((uid % 20 : Nat) : Int) ∧ 1 + ((uid % 20 : Nat) : Int) ≤ 2147483647
    omega
  · show 1 ≤ 2 + ((mod % 20 : Nat) : Int) ∧ 2 + ((mod % 20 : Nat) : Int) ≤ 2147483647
    omega
/-- As many as go in. -/
def mostE (mod uid : Nat) : Nat := if 1 + uid % 20 < 1 + mod % 20 then 1 + uid % 20 else 1 + mod % 20

structure EnSt (mod uid : Nat) (x : Acc) (i : Nat) : Prop where
  cfg : x.cfg = endsC mod uid
  clock : x.clock = 1 + i
  boxes : ∃ b, x.boxes = [b] ∧ b.id = 1 ∧ b.next = 1 + i
  len : x.mails.length = i
  first : 0 < i → ∃ m r, x.mails = m :: r ∧ m.id = 1 ∧ m.members = [(1, 1)] ∧ m.keys = []
  octets : x.octets = i
  lastId : x.lastId = i

theorem enSt_new (mod uid : Nat) : EnSt mod uid (newP (endsC mod uid)) 0 :=
  ⟨rfl, rfl, ⟨⟨1, inboxT, 0, 1, 1, 1⟩, rfl, rfl, rfl⟩, rfl, fun h => absurd h (by omega), rfl, rfl⟩

theorem enSt_step {mod uid : Nat} {x : Acc} {i : Nat} (h : EnSt mod uid x i) (hi : i < mostE mod uid) (hk0 : keysF [] = ([], 0)) :
    ∃ x', appendP headF x [1] [] 0 [120] = (x', (i : Int) + 1, 0) ∧ EnSt mod uid x' (i + 1) := by
  obtain ⟨b, hb, h1, hn⟩ := h.boxes
  have hm1 := Nat.mod_lt mod (show 0 < 20 by decide)
  have hm2 := Nat.mod_lt uid (show 0 < 20 by decide)
  have hlt : i < 1 + mod % 20 ∧ i < 1 + uid % 20 := by unfold mostE at hi; split at hi <;> omega
  have hcfg := h.cfg
  have happ := appendP_one headF x b hb h1 [] (by rw [hk0]) 0 (by omega) (by omega) [120] (by rw [h.len, hcfg]; show (i : Int) < 1000; omega) (by rw [hcfg, h.octets]; show (i : Int) + 1 ≤ 1048576; omega) (by rw [h.clock, hcfg]; show 1 + (i : Int) < 2 + ((mod % 20 : Nat) : Int); omega) (by rw [hn, hcfg]; show 1 + (i : Int) ≤ 1 + ((uid % 20 : Nat) : Int); omega)
  refine ⟨_, happ.trans (by rw [h.lastId]), ?_⟩
  refine ⟨hcfg, by show x.clock + 1 = 1 + ((i + 1 : Nat) : Int); rw [h.clock]; omega, ⟨_, rfl, h1, by show b.next + 1 = 1 + ((i + 1 : Nat) : Int); rw [hn]; omega⟩, ?_, ?_, ?_, ?_⟩
  · show (x.mails ++ [_]).length = i + 1
    rw [List.length_append, List.length_singleton, h.len]
  · intro _
    by_cases h0 : 0 < i
    · obtain ⟨m, r, hmr, h2⟩ := h.first h0
      exact ⟨m, r ++ [_], by show x.mails ++ [_] = m :: (r ++ [_]); rw [hmr]; rfl, h2⟩
    · have h00 : i = 0 := by omega
      have hx : x.mails = [] := List.eq_nil_of_length_eq_zero (by rw [h.len]; exact h00)
      refine ⟨_, [], by show x.mails ++ [_] = [_]; rw [hx]; rfl, ?_, ?_, ?_⟩
      · show (i : Int) + 1 = 1
        rw [h00]
        rfl
      · show [((1 : Int), b.next)] = [(1, 1)]
        rw [hn, h00]
        rfl
      · show (keysF []).1 = []
        rw [hk0]
  · show x.octets + 1 = ((i + 1 : Nat) : Int)
    rw [h.octets]
    omega
  · show (i : Int) + 1 = ((i + 1 : Nat) : Int)
    omega
theorem enSt_end {mod uid : Nat} {x : Acc} (h : EnSt mod uid x (mostE mod uid)) (hk0 : keysF [] = ([], 0)) : appendP headF x [1] [] 0 [120] = (x, 0, 11) := by
  obtain ⟨b, hb, h1, hn⟩ := h.boxes
  have hm1 := Nat.mod_lt mod (show 0 < 20 by decide)
  have hm2 := Nat.mod_lt uid (show 0 < 20 by decide)
  have hlt : mostE mod uid ≤ 20 := by unfold mostE; split <;> omega
  have hcfg := h.cfg
  refine appendP_end headF x b hb h1 [] (by rw [hk0]) 0 (by omega) (by omega) [120] (by rw [h.len, hcfg]; show ((mostE mod uid : Nat) : Int) < 1000; omega) (by rw [hcfg, h.octets]; show ((mostE mod uid : Nat) : Int) + 1 ≤ 1048576; omega) ?_
  rw [h.clock, hcfg, hn]
  show 2 + ((mod % 20 : Nat) : Int) ≤ 1 + ((mostE mod uid : Nat) : Int) ∨ 1 + ((uid % 20 : Nat) : Int) < 1 + ((mostE mod uid : Nat) : Int)
  unfold mostE
  split <;> omega

theorem enSt_place {mod uid : Nat} {x : Acc} {i : Nat} (h : EnSt mod uid x i) (hi : 0 < i) : placeP x 1 [1] = (x, 0) := by
  obtain ⟨m, r, hmr, h1, h2, h3⟩ := h.first hi
  obtain ⟨b, hb, hb1, _⟩ := h.boxes
  unfold placeP
  rw [hmr, List.find?_cons_of_pos (by simpa using h1)]
  simp [rise_one, hb, hasBox, hb1, h2]
theorem enSt_keys {mod uid : Nat} {x : Acc} {i : Nat} (h : EnSt mod uid x i) (hi : 0 < i) (hk0 : keysF [] = ([], 0)) : keysP x 1 [] = (x, 0) := by
  obtain ⟨m, r, hmr, h1, h2, h3⟩ := h.first hi
  unfold keysP keysK
  rw [hmr, List.find?_cons_of_pos (by simpa using h1)]
  simp [hk0, h3]

end Go.Proofs.YtmbibhphpjmboaaGreatDoor
