/-
  ViewTold in plain words: two emails, the second one's keywords turn.
-/
import Derived.Test.YtgkfknbhkonfdaaGreatDoorGVD
import Derived.Test.YtgkfknbhkonfdaaGreatDoorGVA
import Derived.Test.YtgkfknbhkonfdaaGreatDoorKeysIns1M
namespace Go.Proofs.YtgkfknbhkonfdaaGreatDoor

def ksT : List Text := [seenT, [122]]
theorem keysF_told : keysF ksT = (ksT, 0) := by
  rw [keysF_ins]
  decide +kernel
def m2T : MailP := ⟨2, 2, xT, 0, ksT, [(1, 2)], 4, 3⟩
def ms3T : List MailP := [mailV xT 1 2, m2T]
def vA : ViewP := ⟨1, [⟨1, 1, 2⟩, ⟨2, 2, 3⟩], 2⟩
def vB : ViewP := ⟨1, [⟨1, 1, 2⟩, ⟨2, 2, 4⟩], 2⟩
def fT : Text := [42, 32, 50, 32, 70, 69, 84, 67, 72, 32, 40, 85, 73, 68, 32, 50, 32, 70, 76, 65, 71, 83, 32, 40, 92, 83, 101, 101, 110, 32, 122, 41, 32, 77, 79, 68, 83, 69, 81, 32, 40, 52, 41, 41, 13, 10]
theorem newA_is : newV 1 (zsOf (msK 2)) = vA := rfl
theorem keys_told {x : Acc} (h : ViSt x 2 2 (msK 2)) : ∃ x3, keysP x 2 ksT = (x3, 0) ∧ Fit x3 ∧ x3.mails = ms3T ∧ x3.clock = 4 := by
  have hf := keysP_fit h.fit 2 ksT (by rw [keysF_told]; decide)
  have hend : x.ends = false := by
    unfold Acc.ends
    have := h.clock
    rw [h.cfg]
    exact decide_eq_false (show ¬ (1073741824 : Int) ≤ x.clock by omega)
  have hfind : (msK 2).find? (fun m => decide (m.id = 2)) = some (mailV xT 2 3) := rfl
  obtain ⟨x3, h3⟩ : ∃ x3, keysP x 2 ksT = (x3, 0) ∧ x3.mails = setMail 2 (fun m => { m with keys := ksT, mod := x.clock + 1 }) (msK 2) ∧ x3.clock = x.clock + 1 := by
    unfold keysP keysK
    rw [keysF_told, h.mails, hfind]
    simp only [ne_eq, not_true_eq_false, if_false, hend, Bool.false_eq_true]
    rw [if_neg (by decide)]
    exact ⟨_, rfl, rfl, rfl⟩
  obtain ⟨e0, e1, e2⟩ := h3
  rw [e0] at hf
  have hc : x.clock + 1 = 4 := by
    have := h.clock
    omega
  refine ⟨x3, e0, hf, ?_, by rw [e2, hc]⟩
  rw [e1, hc]
  rfl
theorem digL_one' {n : Int} (h : 0 ≤ n) (h2 : n < 10) : digL n = [UInt8.ofNat (48 + n.toNat)] := by
  unfold digL
  rw [Lib.decDigits_one (by omega)]
theorem told_text : fetchT flagsF 1 2 m2T = fT := by
  have h2 : digL 2 = [50] := digL_one' (by omega) (by omega)
  have h4 : digL 4 = [52] := digL_one' (by omega) (by omega)
  have hf : flagsF m2T.keys = [40, 92, 83, 101, 101, 110, 32, 122, 41] := by decide +kernel
  have h1 : digL (((1 : Nat) : Int) + 1) = [50] := h2
  unfold fetchT sayT
  rw [h1, h2, hf, show digL m2T.mod = [52] from h4]
  rfl
theorem isV_told : ∀ m ∈ [(⟨1, 1, 2⟩ : Msg), ⟨2, 2, 3⟩, ⟨2, 2, 4⟩], isV (zsOf ms3T) m = true := by decide
theorem told_upd (all : Bool) : updateV flagsF (zsOf ms3T) vA all = (fT, vB) := by
  have hfil : vA.l.filter (isV (zsOf ms3T)) = vA.l := List.filter_eq_self.2 fun m hm => isV_told m (by
    rw [show vA.l = [⟨1, 1, 2⟩, ⟨2, 2, 3⟩] from rfl] at hm
    simp only [List.mem_cons, List.not_mem_nil, or_false] at hm ⊢
    rcases hm with h | h <;> simp [h])
  have hgo : goneT (isV (zsOf ms3T)) 0 vA.l = [] := (gone_none (is := isV (zsOf ms3T)) (l := vA.l) (i := 0) fun m hm => isV_told m (by
    rw [show vA.l = [⟨1, 1, 2⟩, ⟨2, 2, 3⟩] from rfl] at hm
    simp only [List.mem_cons, List.not_mem_nil, or_false] at hm ⊢
    rcases hm with h | h <;> simp [h])).1
  have h1 := turn_same (flags := flagsF) (zs := zsOf ms3T) (m := ⟨1, 1, 2⟩) (z := (1, mailV xT 1 2)) 0 (by rfl) (by decide)
  have h2 := turn_new (flags := flagsF) (zs := zsOf ms3T) (m := ⟨2, 2, 3⟩) (z := (2, m2T)) 1 (by rfl) (by decide)
  have ht : turnT flagsF (zsOf ms3T) 0 vA.l = fT := by
    rw [show vA.l = [(⟨1, 1, 2⟩ : Msg)] ++ [⟨2, 2, 3⟩] from rfl, turn_snoc, h1.1, List.nil_append]
    exact h2.1.trans told_text
  have hm : vA.l.map (turnM (zsOf ms3T)) = vB.l := by
    rw [show vA.l = [(⟨1, 1, 2⟩ : Msg), ⟨2, 2, 3⟩] from rfl, List.map_cons, List.map_cons, List.map_nil, h1.2, h2.2]
    rfl
  have hfr : freshV 2 (zsOf ms3T) vB = vB := fresh_none (by decide)
  have hz : updateV flagsF (zsOf ms3T) vA all = ([] ++ fT ++ [], vB) := by
    unfold updateV
    cases all with
    | true =>
      simp only [if_true, hfil, hgo, ht, hm]
      rw [show (⟨vA.box, vB.l, vA.had⟩ : ViewP) = vB from rfl, show vA.had = 2 from rfl, hfr]
      rfl
    | false =>
      simp only [Bool.false_eq_true, if_false, ht, hm]
      rw [show (⟨vA.box, vB.l, vA.had⟩ : ViewP) = vB from rfl, show vA.had = 2 from rfl, hfr]
      rfl
  rw [hz]
  rfl
theorem told_still (all : Bool) : updateV flagsF (zsOf ms3T) vB all = ([], vB) := by
  refine update_still flagsF (fun m hm => .inr ?_) (fun _ m hm => isV_told m ?_) (by decide)
  · rw [show vB.l = [⟨1, 1, 2⟩, ⟨2, 2, 4⟩] from rfl] at hm
    simp only [List.mem_cons, List.not_mem_nil, or_false] at hm
    rcases hm with h | h
    · rw [h]
      exact ⟨(1, mailV xT 1 2), rfl, by decide⟩
    · rw [h]
      exact ⟨(2, m2T), rfl, by decide⟩
  · rw [show vB.l = [⟨1, 1, 2⟩, ⟨2, 2, 4⟩] from rfl] at hm
    simp only [List.mem_cons, List.not_mem_nil, or_false] at hm ⊢
    rcases hm with h | h <;> simp [h]
theorem told_two : toldV (zsOf ms3T) vA ((1 : Nat) + 1) = vB := rfl

end Go.Proofs.YtgkfknbhkonfdaaGreatDoor
