/-
  The plain law of StoreFull: reckoned out, round by round.
-/
import Derived.Test.YtmbibhphpjmboaaGreatDoorBoxesPlainM
namespace Go.Proofs.YtmbibhphpjmboaaGreatDoor

def fullC (M : Nat) : CfgP := { wideP with maxMails := M, maxBoxes := (M : Int) + 1, maxSize := 10 * (M : Int) }
theorem fullC_ok {M : Nat} (h1 : 1 ≤ M) (h2 : M ≤ 10) : CfgOk (fullC M) := by
  refine ⟨?_, ?_, ?_, wideP_ok.uid, wideP_ok.mod, wideP_ok.log, wideP_ok.get⟩
  · show 1 ≤ (M : Int) ∧ (M : Int) ≤ 2147483647
    omega
  · show 1 ≤ (M : Int) + 1 ∧ (M : Int) + 1 ≤ 2147483647
    omega
  · show 1 ≤ 10 * (M : Int) ∧ 10 * (M : Int) ≤ 2147483647
    omega
def zerosT (z : Nat) : Text := List.replicate z 0
def nameN (i : Nat) : Text := [110, UInt8.ofNat (97 + i)]
def fullA (z : Nat) (x : Acc) : Acc × Int × Int := appendK headF x [1] ([], 0) 0 (zerosT z)
def fullM (z i : Nat) (x : Acc) : Acc × Int × Int := makeP asciiRight (fullA z x).1 (nameN i) 0
def fitsF (M z i : Nat) : Bool := decide (i < M) && decide (z * (i + 1) ≤ 10 * M)
/-- What the statement asks of a round. -/
def fullOk (M z i : Nat) (x : Acc) : Bool :=
  !((((decide ((fullA z x).2.2 = 0) != fitsF M z i) && decide ((fullM z i x).1.mails.length = i)) || (!fitsF M z i && !decide ((fullA z x).2.2 = 8))) ||
    ((decide ((fullM z i x).2.2 = 0) != decide (i < M)) || (decide (M ≤ i) && !decide ((fullM z i x).2.2 = 8))))
def fullGo (M z : Nat) : Nat → Nat → Acc → Bool
  | 0, _, x => match x.mails with
    | [] => true
    | m :: _ => decide ((destroyP x m.id).2 = 0) && decide ((fullA z (destroyP x m.id).1).2.2 = 0)
  | n + 1, i, x => fullOk M z i x && fullGo M z n (i + 1) (fullM z i x).1
theorem full_all : ∀ M : Fin 10, ∀ z : Fin 15, fullGo (M.val + 1) z.val 12 0 (newP (fullC (M.val + 1))) = true := by decide +kernel

end Go.Proofs.YtmbibhphpjmboaaGreatDoor
