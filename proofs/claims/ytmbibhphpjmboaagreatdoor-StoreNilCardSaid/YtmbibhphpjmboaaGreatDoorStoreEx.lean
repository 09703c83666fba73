/-
  Accounts of one mailbox in plain words: what an Append into it does; the document's example.
-/
import Derived.Test.YtmbibhphpjmboaaGreatDoorStoreFit4
import Derived.Test.YtmbibhphpjmboaaGreatDoorFieldPlain
namespace Go.Proofs.YtmbibhphpjmboaaGreatDoor

def wideP : CfgP := ⟨[117], [112], 1000, 100, 1048576, 1073741824, 1073741824, 10000, 200⟩
theorem wideP_ok : CfgOk wideP := by constructor <;> decide
theorem rise_one (i : Int) : rise [i] = [i] := rfl
theorem headF_a (name : List UInt8) : headF [97] name = [] := by
  have h : (splitF [97]).1 = [] := by decide
  simp [headF, h, firstF]

/-- An Append into the one mailbox there is. -/
theorem appendP_one (head : Text → Text → Text) (x : Acc) (b : BoxP) (hb : x.boxes = [b]) (h1 : b.id = 1) (keys : List Text) (hk : (keysF keys).2 = 0) (at_ : Int) (ha : 0 ≤ at_) (ha2 : at_ ≤ 253402300799) (t : Text)
    (hm : (x.mails.length : Int) < x.cfg.maxMails) (ho : x.octets + t.length ≤ x.cfg.maxSize) (hc : x.clock < x.cfg.maxMod) (hu : b.next ≤ x.cfg.maxUid) :
    appendP head x [1] keys at_ t = ({ x with clock := x.clock + 1, lastId := x.lastId + 1, boxes := [{ b with next := b.next + 1, mod := x.clock + 1 }], octets := x.octets + t.length, mails := x.mails ++ [⟨x.lastId + 1, if threadP head x t = 0 then x.lastId + 1 else threadP head x t, t, at_, (keysF keys).1, [(1, b.next)], x.clock + 1, x.clock + 1⟩], log := x.log.add [⟨x.clock + 1, 1, 1, 2⟩, ⟨x.clock + 1, 2, x.lastId + 1, 1⟩, ⟨x.clock + 1, 3, if threadP head x t = 0 then x.lastId + 1 else threadP head x t, if threadP head x t = 0 then 1 else 2⟩] }, x.lastId + 1, 0) := by
  have hhas : ((rise [1]).any fun id => !hasBox x.boxes id) = false := by
    rw [rise_one, hb]
    simp [hasBox, h1]
  have hend : (x.ends || (rise [1]).any x.spent) = false := by
    rw [rise_one]
    simp [Acc.ends, Acc.spent, hb, nextOf, h1]
    omega
  have hn : numbers [1] x.boxes = ([{ b with next := b.next + 1 }], [(1, b.next)]) := by
    rw [hb]
    simp [numbers, bump, setBox, nextOf, h1]
  unfold appendP appendK
  rw [if_neg (by simp; omega), if_neg (by omega), if_neg (by rw [hhas]; decide), if_neg (by omega), if_neg (by rw [hend]; decide)]
  simp only [rise_one, hn, turnBoxes, turnEnts, List.foldl_cons, List.foldl_nil, setBox, h1, if_true, List.map_cons, List.map_nil, List.cons_append, List.nil_append]

/-- Refused: no number, no clock left. -/
theorem appendP_end (head : Text → Text → Text) (x : Acc) (b : BoxP) (hb : x.boxes = [b]) (h1 : b.id = 1) (keys : List Text) (hk : (keysF keys).2 = 0) (at_ : Int) (ha : 0 ≤ at_) (ha2 : at_ ≤ 253402300799) (t : Text)
    (hm : (x.mails.length : Int) < x.cfg.maxMails) (ho : x.octets + t.length ≤ x.cfg.maxSize) (hc : x.cfg.maxMod ≤ x.clock ∨ x.cfg.maxUid < b.next) : appendP head x [1] keys at_ t = (x, 0, 11) := by
  have hhas : ((rise [1]).any fun id => !hasBox x.boxes id) = false := by
    rw [rise_one, hb]
    simp [hasBox, h1]
  have hend : (x.ends || (rise [1]).any x.spent) = true := by
    rw [rise_one]
    simp [Acc.ends, Acc.spent, hb, nextOf, h1]
    omega
  unfold appendP appendK
  rw [if_neg (by simp; omega), if_neg (by omega), if_neg (by rw [hhas]; decide), if_neg (by omega), if_pos hend]
/-- Refused: too many, too long. -/
theorem appendP_full (head : Text → Text → Text) (x : Acc) (b : BoxP) (hb : x.boxes = [b]) (h1 : b.id = 1) (keys : List Text) (hk : (keysF keys).2 = 0) (at_ : Int) (ha : 0 ≤ at_) (ha2 : at_ ≤ 253402300799) (t : Text)
    (hm : x.cfg.maxMails ≤ (x.mails.length : Int) ∨ x.cfg.maxSize < x.octets + t.length) : appendP head x [1] keys at_ t = (x, 0, 8) := by
  have hhas : ((rise [1]).any fun id => !hasBox x.boxes id) = false := by
    rw [rise_one, hb]
    simp [hasBox, h1]
  unfold appendP appendK
  rw [if_neg (by simp; omega), if_neg (by omega), if_neg (by rw [hhas]; decide), if_pos (by omega)]

end Go.Proofs.YtmbibhphpjmboaaGreatDoor
