/-
  The plain laws of StoreBoxes and StoreSeen: reckoned out.
-/
import Derived.Test.YtmbibhphpjmboaaGreatDoorGC
namespace Go.Proofs.YtmbibhphpjmboaaGreatDoor

/-- A name of plain letters. -/
def asciiRight (t : Text) : Bool := !decide (t = []) && (decide (t.length ≤ 64) && t.all fun c => decide (32 ≤ c.toNat) && (decide (c.toNat < 127) && !(decide (c.toNat = 47) || (decide (c.toNat = 42) || decide (c.toNat = 37)))))

def chainP (n : Nat) : Acc := (List.range n).foldl (fun x (i : Nat) => (makeP asciiRight x [110] (if i = 0 then 0 else (i : Int) + 1)).1) (newP wideP)
theorem chainP_succ (n : Nat) : chainP (n + 1) = (makeP asciiRight (chainP n) [110] (if n = 0 then 0 else (n : Int) + 1)).1 := by
  unfold chainP
  rw [List.range_succ, List.foldl_append]
  rfl
/-- Each mailbox of the chain is made. -/
theorem chain_made : ∀ n : Fin 11, (makeP asciiRight (chainP n) [110] (if n.val = 0 then 0 else (n.val : Int) + 1)).2 = ((n.val : Int) + 2, 0) := by decide +kernel

def b0 (k : Nat) : Acc := chainP (k - 1)
def b1 (k : Nat) : Acc := (renameP asciiRight (b0 k) 2 [110] k).1
def b2 (k : Nat) : Acc := (dropP (b1 k) 2).1
def b3 (k : Nat) : Acc := (makeP asciiRight (b2 k) [105, 110, 66, 111, 120] 0).1
def b4 (k : Nat) : Acc := (makeP asciiRight (b3 k) [110] 0).1
def b5 (k : Nat) : Acc := (renameP asciiRight (b4 k) 1 [120] 0).1
def b6 (k : Nat) : Acc := (dropP (b5 k) 1).1
def b7 (k : Nat) : Acc := (appendK headF (b6 k) [(k : Int)] ([], 0) 0 [120]).1
def b8 (k : Nat) : Acc := (dropP (b7 k) k).1
def b9 (k : Nat) : Acc := (destroyP (b8 k) 1).1
theorem boxes_two : (renameP asciiRight (b0 2) 2 [110] 2).2 = 10 ∧ (dropP (b1 2) 2).2 = 0 := by decide +kernel
theorem boxes_more : ∀ k : Fin 12, 3 ≤ k.val → (renameP asciiRight (b0 k) 2 [110] k.val).2 = 10 ∧ (dropP (b1 k) 2).2 = 10 ∧ (makeP asciiRight (b2 k) [105, 110, 66, 111, 120] 0).2.2 = 5 ∧ (makeP asciiRight (b3 k) [110] 0).2.2 = 5 ∧
    (renameP asciiRight (b4 k) 1 [120] 0).2 = 1 ∧ (dropP (b5 k) 1).2 = 1 ∧ (dropP (b7 k) k.val).2 = 10 ∧ (dropP (b9 k) k.val).2 = 0 := by decide +kernel

/-! StoreSeen -/
def seenK (seen other : Bool) : List Text := if seen then (if other then [[36, 115, 101, 101, 110], [97], [98]] else [[36, 115, 101, 101, 110], [97]]) else (if other then [[97], [98]] else [[97]])
def s1 : Acc := (appendK headF (newP wideP) [1] ([[97]], 0) 0 [120]).1
def s2 (seen other : Bool) : Acc := (keysK s1 1 (seenK seen other, 0)).1
theorem seen_append : (appendK headF (newP wideP) [1] ([[97]], 0) 0 [120]).2 = (1, 0) := by decide +kernel
theorem seen_keys : ∀ seen other : Bool, (keysK s1 1 (seenK seen other, 0)).2 = 0 ∧ (s2 seen other).clock = (if seen || other then 3 else 2) ∧ (s2 seen other).mails.map (·.mod) = [if seen || other then 3 else 2] ∧ (s2 seen other).boxes.map (·.mod) = [if seen then 3 else 2] ∧
    (keysK (s2 seen other) 1 (seenK seen other, 0)).2 = 0 ∧ (keysK (s2 seen other) 1 (seenK seen other, 0)).1.clock = (s2 seen other).clock ∧ (keysK (s2 seen other) 1 (seenK seen other, 0)).1.mails = (s2 seen other).mails ∧ (keysK (s2 seen other) 1 (seenK seen other, 0)).1.boxes = (s2 seen other).boxes := by decide +kernel

end Go.Proofs.YtmbibhphpjmboaaGreatDoor
