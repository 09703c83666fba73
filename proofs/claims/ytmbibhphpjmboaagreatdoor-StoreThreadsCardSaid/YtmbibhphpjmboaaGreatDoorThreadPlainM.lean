/-
  The thread statement in plain words: emails that answer one another.
-/
import Derived.Test.YtmbibhphpjmboaaGreatDoorGC
namespace Go.Proofs.YtmbibhphpjmboaaGreatDoor

theorem mailT_length (i k : Nat) : (mailT i k).length ≤ 60 := by
  unfold mailT
  split <;> simp

/-- The threads of emails: of its own, or of the one that is answered. -/
def nextT (ts : List Int) (k : Nat) : Int := if k = 0 then (ts.length : Int) + 1 else ts[k - 1]?.getD 0

structure ThSt (ks : Nat → Nat) (x : Acc) (ts : List Int) (i : Nat) : Prop where
  cfg : x.cfg = wideP
  clock : x.clock = 1 + i
  boxes : ∃ b, x.boxes = [b] ∧ b.id = 1 ∧ b.next = 1 + i
  len : x.mails.length = i
  tlen : ts.length = i
  mail : ∀ j (h : j < x.mails.length) (h2 : j < ts.length), x.mails[j].text = mailT j (ks j) ∧ x.mails[j].thread = ts[j]
  pos : ∀ t ∈ ts, 1 ≤ t
  octets : x.octets ≤ i * 60
  lastId : x.lastId = i

theorem thSt_new (ks : Nat → Nat) : ThSt ks (newP wideP) [] 0 :=
  ⟨rfl, rfl, ⟨⟨1, inboxT, 0, 1, 1, 1⟩, rfl, rfl, rfl⟩, rfl, rfl, fun j h => by simp [newP] at h, by simp, by simp [newP], rfl⟩

theorem thSt_thread {ks : Nat → Nat} {x : Acc} {ts : List Int} {i : Nat} (h : ThSt ks x ts i) (hi : i < 20) (hk : ∀ j, ks j ≤ j) :
    threadP headF x (mailT i (ks i)) = if ks i = 0 then 0 else nextT ts (ks i) := by
  have hirt := head_irt ⟨i, by omega⟩ ⟨ks i, by have := hk i; omega⟩
  simp only at hirt
  unfold threadP
  by_cases h0 : ks i = 0
  · rw [if_pos h0] at hirt
    have hirt' : headF (mailT i (ks i)) [105, 110, 45, 114, 101, 112, 108, 121, 45, 116, 111] = [] := hirt
    rw [if_pos hirt', if_pos h0]
  · rw [if_neg h0] at hirt
    have hki := hk i
    have hlt : ks i - 1 < x.mails.length := by rw [h.len]; omega
    have hlt2 : ks i - 1 < ts.length := by rw [h.tlen]; omega
    rw [show headF (mailT i (ks i)) [105, 110, 45, 114, 101, 112, 108, 121, 45, 116, 111] = [60, UInt8.ofNat (97 + ks i - 1), 62] from hirt]
    rw [if_neg (by simp), if_neg h0]
    have hfind : x.mails.find? (fun m => decide (headF m.text [109, 101, 115, 115, 97, 103, 101, 45, 105, 100] = [60, UInt8.ofNat (97 + ks i - 1), 62])) = some x.mails[ks i - 1] := by
      rw [List.find?_eq_some_iff_getElem]
      refine ⟨?_, ks i - 1, hlt, rfl, fun j hj => ?_⟩
      · have h1 := head_mid ⟨ks i - 1, by omega⟩ ⟨ks (ks i - 1), by have := hk (ks i - 1); omega⟩
        simp only at h1
        rw [(h.mail _ hlt hlt2).1, decide_eq_true_iff]
        exact h1.trans (by rw [show 97 + (ks i - 1) = 97 + ks i - 1 from by omega])
      · have hj2 : j < 20 := by omega
        have h1 := head_mid ⟨j, by omega⟩ ⟨ks j, by have := hk j; omega⟩
        simp only at h1
        have h2 : x.mails[j].text = mailT j (ks j) := (h.mail j (by omega) (by omega)).1
        rw [h2]
        have h3 : headF (mailT j (ks j)) [109, 101, 115, 115, 97, 103, 101, 45, 105, 100] = [60, UInt8.ofNat (97 + j), 62] := h1
        rw [h3]
        have h4 : UInt8.ofNat (97 + j) ≠ UInt8.ofNat (97 + ks i - 1) := by
          intro e
          have := congrArg UInt8.toNat e
          simp only [UInt8.toNat_ofNat'] at this
          omega
        generalize UInt8.ofNat (97 + j) = a at h4
        generalize UInt8.ofNat (97 + ks i - 1) = c at h4
        rw [show decide (([60, a, 62] : List UInt8) = [60, c, 62]) = false from decide_eq_false (fun e => h4 (by injection e with _ e; injection e))]
        rfl
    rw [hfind]
    show x.mails[ks i - 1].thread = nextT ts (ks i)
    rw [(h.mail _ hlt hlt2).2, nextT, if_neg h0, List.getElem?_eq_getElem hlt2]
    rfl

theorem thSt_step {ks : Nat → Nat} {x : Acc} {ts : List Int} {i : Nat} (h : ThSt ks x ts i) (hi : i < 20) (hk : ∀ j, ks j ≤ j) (hk0 : keysF [] = ([], 0)) :
    ∃ x', appendP headF x [1] [] i (mailT i (ks i)) = (x', (i : Int) + 1, 0) ∧ ThSt ks x' (ts ++ [nextT ts (ks i)]) (i + 1) := by
  obtain ⟨b, hb, h1, hn⟩ := h.boxes
  have hml := mailT_length i (ks i)
  have hoct := h.octets
  have hcfg := h.cfg
  have happ := appendP_one headF x b hb h1 [] (by rw [hk0]) i (by omega) (by omega) (mailT i (ks i)) (by rw [h.len, hcfg]; show (i : Int) < 1000; omega) (by rw [hcfg]; show x.octets + _ ≤ 1048576; omega) (by rw [h.clock, hcfg]; show 1 + (i : Int) < 1073741824; omega) (by rw [hn, hcfg]; show 1 + (i : Int) ≤ 1073741824; omega)
  have hth := thSt_thread h hi hk
  have hpos : 1 ≤ nextT ts (ks i) := by
    unfold nextT
    split
    · omega
    · have hlt2 : ks i - 1 < ts.length := by rw [h.tlen]; have := hk i; omega
      rw [List.getElem?_eq_getElem hlt2]
      exact h.pos _ (List.getElem_mem hlt2)
  have hval : (if threadP headF x (mailT i (ks i)) = 0 then (i : Int) + 1 else threadP headF x (mailT i (ks i))) = nextT ts (ks i) := by
    rw [hth]
    by_cases h0 : ks i = 0
    · rw [if_pos h0, if_pos rfl, nextT, if_pos h0, h.tlen]
    · rw [if_neg h0, if_neg (by omega)]
  refine ⟨_, happ.trans (by rw [h.lastId]), ?_⟩
  refine ⟨hcfg, by show x.clock + 1 = 1 + ((i + 1 : Nat) : Int); rw [h.clock]; omega, ⟨_, rfl, h1, by show b.next + 1 = 1 + ((i + 1 : Nat) : Int); rw [hn]; omega⟩, ?_, ?_, ?_, ?_, ?_, ?_⟩
  · show (x.mails ++ [_]).length = i + 1
    rw [List.length_append, List.length_singleton, h.len]
  · rw [List.length_append, List.length_singleton, h.tlen]
  · intro j hj hj2
    show (x.mails ++ [_])[j].text = _ ∧ (x.mails ++ [_])[j].thread = _
    by_cases hji : j < i
    · rw [List.getElem_append_left (by rw [h.len]; exact hji), List.getElem_append_left (by rw [h.tlen]; exact hji)]
      exact h.mail j _ _
    · have hje : j = i := by
        rw [List.length_append, List.length_singleton, h.tlen] at hj2
        omega
      subst hje
      rw [List.getElem_append_right (by rw [h.len]; exact Nat.le_refl _), List.getElem_append_right (by rw [h.tlen]; exact Nat.le_refl _)]
      simp only [h.len, h.tlen, Nat.sub_self, List.getElem_cons_zero]
      exact ⟨trivial, hval⟩
  · intro t ht
    rcases List.mem_append.1 ht with ht | ht
    · exact h.pos t ht
    · rw [List.mem_singleton] at ht
      rw [ht]
      exact hpos
  · show x.octets + _ ≤ ((i + 1 : Nat) : Int) * 60
    omega
  · show (i : Int) + 1 = ((i + 1 : Nat) : Int)
    omega

end Go.Proofs.YtmbibhphpjmboaaGreatDoor
