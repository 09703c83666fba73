/-
  The plain model of an account: what the program's store does, as functions of data alone. No program in sight.
-/
import Derived.Test.YtmbibhphpjmboaaGreatDoorLogPlain
import Derived.Test.YtmbibhphpjmboaaGreatDoorFlagKeys1
namespace Go.Proofs.YtmbibhphpjmboaaGreatDoor

abbrev Text := List UInt8

/-- A mailbox. -/
structure BoxP where
  id : Int
  name : Text
  parent : Int
  valid : Int
  next : Int
  mod : Int
  deriving DecidableEq, Inhabited
/-- An email; its members: mailbox and number. -/
structure MailP where
  id : Int
  thread : Int
  text : Text
  at_ : Int
  keys : List Text
  members : List (Int × Int)
  mod : Int
  born : Int
  deriving DecidableEq, Inhabited
/-- What an account was made with. -/
structure CfgP where
  user : Text
  pass : Text
  maxMails : Int
  maxBoxes : Int
  maxSize : Int
  maxUid : Int
  maxMod : Int
  maxLog : Int
  maxGet : Int
  deriving DecidableEq, Inhabited
/-- An account. -/
structure Acc where
  cfg : CfgP
  clock : Int
  boxes : List BoxP
  mails : List MailP
  log : LogV
  lastBox : Int
  lastId : Int
  octets : Int

/-- The place of the first that is so; below nought: there is none. -/
def place {α : Type} (p : α → Bool) : List α → Int
  | [] => -1
  | x :: r => if p x then 0 else if place p r < 0 then -1 else place p r + 1
theorem place_ge {α : Type} (p : α → Bool) : ∀ l : List α, -1 ≤ place p l
  | [] => Int.le_refl _
  | x :: r => by
    unfold place
    have := place_ge p r
    split
    · omega
    · split <;> omega
theorem place_lt {α : Type} (p : α → Bool) : ∀ l : List α, place p l < l.length
  | [] => by simp [place]
  | x :: r => by
    unfold place
    have := place_lt p r
    rw [List.length_cons]
    split
    · omega
    · split <;> omega

/-- Whole numbers, rising, each once. -/
def insI (x : Int) : List Int → List Int
  | [] => [x]
  | y :: r => if x < y then x :: y :: r else if x = y then y :: r else y :: insI x r
def rise (l : List Int) : List Int := l.foldl (fun acc x => insI x acc) []

/-- The first mailbox of an Id, turned. -/
def setBox (id : Int) (f : BoxP → BoxP) : List BoxP → List BoxP
  | [] => []
  | b :: r => if b.id = id then f b :: r else b :: setBox id f r
def boxOf (id : Int) (l : List BoxP) : Int := place (fun b => decide (b.id = id)) l
def hasBox (l : List BoxP) (id : Int) : Bool := l.any fun b => decide (b.id = id)
def turnBoxes (mod : Int) (ids : List Int) (l : List BoxP) : List BoxP := ids.foldl (fun bs id => setBox id (fun b => { b with mod := mod }) bs) l
def turnEnts (mod : Int) (ids : List Int) : List E4 := ids.map fun id => ⟨mod, 1, id, 2⟩
/-- A mailbox's next number; 0: there is no such mailbox. -/
def nextOf (l : List BoxP) (id : Int) : Int := match l.find? (fun b => decide (b.id = id)) with
  | some b => b.next
  | none => 0
def bump (id : Int) (l : List BoxP) : List BoxP := setBox id (fun b => { b with next := b.next + 1 }) l
/-- Each of these gets a number more. -/
def numbers (ids : List Int) (l : List BoxP) : List BoxP × List (Int × Int) := ids.foldl (fun s id => (bump id s.1, s.2 ++ [(id, nextOf s.1 id)])) (l, [])

def Acc.ends (x : Acc) : Bool := decide (x.cfg.maxMod ≤ x.clock)
def Acc.spent (x : Acc) (id : Int) : Bool := decide (x.cfg.maxUid < nextOf x.boxes id)

def inboxT : Text := [73, 78, 66, 79, 88]
def seenT : Text := [36, 115, 101, 101, 110]

def namedP (x : Acc) (name : Text) (parent but : Int) : Int :=
  if parent ≠ 0 ∧ hasBox x.boxes parent = false then 6
  else if (parent = 0 ∧ lowL name = lowL inboxT) ∨ x.boxes.any (fun b => decide (b.id ≠ but) && (decide (b.parent = parent) && decide (b.name = name))) = true then 5
  else if x.cfg.maxBoxes ≤ ((x.boxes.filter fun b => decide (b.id ≠ but)).length : Int) then 8
  else 0

/-- Is a mailbox another one, or beneath it? 'fuel' steps up. -/
def underP (l : List BoxP) (top : Int) : Nat → Int → Bool
  | 0, _ => false
  | f + 1, id => if id = top then true else match l.find? (fun b => decide (b.id = id)) with
    | none => false
    | some b => underP l top f b.parent

def makeP (right : Text → Bool) (x : Acc) (name : Text) (parent : Int) : Acc × Int × Int :=
  if right name = false then (x, 0, 1)
  else if namedP x name parent 0 ≠ 0 then (x, 0, namedP x name parent 0)
  else if x.ends then (x, 0, 11)
  else ({ x with clock := x.clock + 1, lastBox := x.lastBox + 1, boxes := x.boxes ++ [⟨x.lastBox + 1, name, parent, x.clock + 1, 1, x.clock + 1⟩], log := x.log.add [⟨x.clock + 1, 1, x.lastBox + 1, 1⟩] }, x.lastBox + 1, 0)

def renameP (right : Text → Bool) (x : Acc) (id : Int) (name : Text) (parent : Int) : Acc × Int :=
  match x.boxes.find? (fun b => decide (b.id = id)) with
  | none => (x, 6)
  | some b =>
    if right name = false ∨ id = 1 then (x, 1)
    else if namedP x name parent id ≠ 0 then (x, namedP x name parent id)
    else if underP x.boxes id (x.boxes.length + 1) parent then (x, 10)
    else if b.name = name ∧ b.parent = parent then (x, 0)
    else if x.ends then (x, 11)
    else ({ x with clock := x.clock + 1, boxes := turnBoxes (x.clock + 1) [id] (setBox id (fun b => { b with name := name, parent := parent }) x.boxes), log := x.log.add (turnEnts (x.clock + 1) [id]) }, 0)

def holdsP (m : MailP) (id : Int) : Bool := m.members.any fun p => decide (p.1 = id)
def dropP (x : Acc) (id : Int) : Acc × Int :=
  if hasBox x.boxes id = false then (x, 6)
  else if id = 1 then (x, 1)
  else if x.boxes.any (fun b => decide (b.parent = id)) || x.mails.any (fun m => holdsP m id) then (x, 10)
  else if x.ends then (x, 11)
  else ({ x with clock := x.clock + 1, boxes := x.boxes.eraseIdx (boxOf id x.boxes).toNat, log := x.log.add [⟨x.clock + 1, 1, id, 3⟩] }, 0)

/-- The thread that a text belongs to by a head's reading of it; 0: none that is there. -/
def threadP (head : Text → Text → Text) (x : Acc) (t : Text) : Int :=
  if head t [105, 110, 45, 114, 101, 112, 108, 121, 45, 116, 111] = [] then 0
  else match x.mails.find? (fun m => decide (head m.text [109, 101, 115, 115, 97, 103, 101, 45, 105, 100] = head t [105, 110, 45, 114, 101, 112, 108, 121, 45, 116, 111])) with
    | some m => m.thread
    | none => 0

def appendK (head : Text → Text → Text) (x : Acc) (boxes : List Int) (kf : List Text × Int) (at_ : Int) (t : Text) : Acc × Int × Int :=
  if boxes = [] ∨ at_ < 0 ∨ 253402300799 < at_ then (x, 0, 1)
  else if kf.2 ≠ 0 then (x, 0, kf.2)
  else if (rise boxes).any (fun id => !hasBox x.boxes id) then (x, 0, 6)
  else if x.cfg.maxMails ≤ (x.mails.length : Int) ∨ x.cfg.maxSize - x.octets < (t.length : Int) then (x, 0, 8)
  else if x.ends || (rise boxes).any x.spent then (x, 0, 11)
  else
    let id := x.lastId + 1
    let mod := x.clock + 1
    let th := threadP head x t
    let n := numbers (rise boxes) x.boxes
    ({ x with clock := mod, lastId := id, boxes := turnBoxes mod (rise boxes) n.1, octets := x.octets + t.length,
              mails := x.mails ++ [⟨id, if th = 0 then id else th, t, at_, kf.1, n.2, mod, mod⟩],
              log := x.log.add (turnEnts mod (rise boxes) ++ [⟨mod, 2, id, 1⟩, ⟨mod, 3, if th = 0 then id else th, if th = 0 then 1 else 2⟩]) }, id, 0)
def appendP (head : Text → Text → Text) (x : Acc) (boxes : List Int) (keys : List Text) (at_ : Int) (t : Text) : Acc × Int × Int := appendK head x boxes (keysF keys) at_ t

def mailOf (id : Int) (l : List MailP) : Int := place (fun m => decide (m.id = id)) l
def setMail (id : Int) (f : MailP → MailP) : List MailP → List MailP
  | [] => []
  | m :: r => if m.id = id then f m :: r else m :: setMail id f r

def keysK (x : Acc) (id : Int) (kf : List Text × Int) : Acc × Int :=
  match x.mails.find? (fun m => decide (m.id = id)) with
  | none => (x, 6)
  | some m =>
    if kf.2 ≠ 0 then (x, kf.2)
    else if kf.1 = m.keys then (x, 0)
    else if x.ends then (x, 11)
    else
      let mod := x.clock + 1
      let ids := if decide (seenT ∈ kf.1) ≠ decide (seenT ∈ m.keys) then rise (m.members.map (·.1)) else []
      ({ x with clock := mod, boxes := turnBoxes mod ids x.boxes, mails := setMail id (fun m => { m with keys := kf.1, mod := mod }) x.mails,
                log := x.log.add (turnEnts mod ids ++ [⟨mod, 2, id, 2⟩]) }, 0)
def keysP (x : Acc) (id : Int) (keys : List Text) : Acc × Int := keysK x id (keysF keys)

def insM (p : Int × Int) : List (Int × Int) → List (Int × Int)
  | [] => [p]
  | q :: r => if p.1 < q.1 then p :: q :: r else q :: insM p r
def sortM (l : List (Int × Int)) : List (Int × Int) := l.foldl (fun acc p => insM p acc) []

def placeP (x : Acc) (id : Int) (boxes : List Int) : Acc × Int :=
  match x.mails.find? (fun m => decide (m.id = id)) with
  | none => (x, 6)
  | some m =>
    if boxes = [] then (x, 1)
    else if (rise boxes).any (fun id => !hasBox x.boxes id) then (x, 6)
    else
      let was := m.members.map (·.1)
      let fresh := (rise boxes).filter fun b => !decide (b ∈ was)
      let left := was.filter fun b => !decide (b ∈ rise boxes)
      if fresh.length + left.length = 0 then (x, 0)
      else if x.ends || fresh.any x.spent then (x, 11)
      else
        let mod := x.clock + 1
        let n := numbers fresh x.boxes
        ({ x with clock := mod, boxes := turnBoxes mod (rise (left ++ fresh)) n.1, mails := setMail id (fun m => { m with members := sortM ((m.members.filter fun p => !decide (p.1 ∈ left)) ++ n.2), mod := mod }) x.mails,
                  log := x.log.add (turnEnts mod (rise (left ++ fresh)) ++ [⟨mod, 2, id, 2⟩]) }, 0)

def destroyP (x : Acc) (id : Int) : Acc × Int :=
  match x.mails.find? (fun m => decide (m.id = id)) with
  | none => (x, 6)
  | some m =>
    if x.ends then (x, 11)
    else
      let mod := x.clock + 1
      let rest := x.mails.eraseIdx (mailOf id x.mails).toNat
      let how := if rest.any (fun y => decide (y.thread = m.thread)) then 2 else 3
      let ids := rise (m.members.map (·.1))
      ({ x with clock := mod, boxes := turnBoxes mod ids x.boxes, mails := rest, octets := x.octets - m.text.length,
                log := x.log.add (turnEnts mod ids ++ [⟨mod, 2, id, 3⟩, ⟨mod, 3, m.thread, how⟩]) }, 0)

def newP (c : CfgP) : Acc := ⟨c, 1, [⟨1, inboxT, 0, 1, 1, 1⟩], [], ⟨c.maxLog, [], 0⟩, 1, 0, 0⟩

end Go.Proofs.YtmbibhphpjmboaaGreatDoor
