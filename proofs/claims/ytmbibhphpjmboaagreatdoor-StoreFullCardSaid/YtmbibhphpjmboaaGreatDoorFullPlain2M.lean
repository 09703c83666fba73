/-
  The plain law of StoreFull, told closer: what each round hands back.
-/
import Derived.Test.YtmbibhphpjmboaaGreatDoorFullPlainM
namespace Go.Proofs.YtmbibhphpjmboaaGreatDoor

def fullOk2 (M z i : Nat) (x : Acc) : Bool := decide ((fullA z x).2.2 = if fitsF M z i then 0 else 8) && decide ((fullM z i x).2.2 = if i < M then 0 else 8)
def fullGo2 (M z : Nat) : Nat → Nat → Acc → Bool
  | 0, _, x => match x.mails with
    | [] => true
    | m :: _ => decide ((destroyP x m.id).2 = 0) && decide ((fullA z (destroyP x m.id).1).2.2 = 0)
  | n + 1, i, x => fullOk2 M z i x && fullGo2 M z n (i + 1) (fullM z i x).1
theorem full_all2 : ∀ M : Fin 10, ∀ z : Fin 15, fullGo2 (M.val + 1) z.val 12 0 (newP (fullC (M.val + 1))) = true := by decide +kernel
theorem full_right : ∀ i : Fin 12, asciiRight (nameN i.val) = true := by decide +kernel
/-- A round's two answers. -/
theorem full_round {M z n i : Nat} {x : Acc} (h : fullGo2 M z (n + 1) i x = true) : (fullA z x).2.2 = (if fitsF M z i then 0 else 8) ∧ (fullM z i x).2.2 = (if i < M then 0 else 8) ∧ fullGo2 M z n (i + 1) (fullM z i x).1 = true := by
  simp only [fullGo2, fullOk2, Bool.and_eq_true, decide_eq_true_eq] at h
  exact ⟨h.1.1, h.1.2, h.2⟩
theorem full_end {M z i : Nat} {x : Acc} {m : MailP} {r : List MailP} (h : fullGo2 M z 0 i x = true) (hm : x.mails = m :: r) : (destroyP x m.id).2 = 0 ∧ (fullA z (destroyP x m.id).1).2.2 = 0 := by
  simp only [fullGo2, hm, Bool.and_eq_true, decide_eq_true_eq] at h
  exact h

end Go.Proofs.YtmbibhphpjmboaaGreatDoor
