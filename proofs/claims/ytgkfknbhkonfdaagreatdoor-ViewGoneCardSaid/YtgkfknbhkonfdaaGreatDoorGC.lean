/-
  The plain model of an account: what the program's store does, as functions of data alone. No program in sight.
  The plain account: its mailboxes as maps, what holds of every account that the steps make.
  What holds of every account that the steps make: kept by each of them.
  What holds of every account, kept by the other steps: Keys, Make, Rename, Drop, Destroy, Place.
  What holds of every account, kept by Drop, Destroy, Place.
  How many members an email of a fit account may have.
  Accounts of one mailbox in plain words: what an Append into it does; the document's example.
  Slices of numbers of the call's own: cloned, sorted, made compact; what that gives.
-/
import Derived.Test.YtgkfknbhkonfdaaGreatDoorGA
import Derived.Test.YtgkfknbhkonfdaaGreatDoorGB
namespace Go.Proofs.YtgkfknbhkonfdaaGreatDoor

abbrev Text := List UInt8

/-- A mailbox. -/
structure BoxP where
  id : Int
  name : Text
  parent : Int
  valid : Int
  next : Int
  mod : Int
  deriving DecidableEq, Inhabited
/-- An email; its members: mailbox and number. -/
structure MailP where
  id : Int
  thread : Int
  text : Text
  at_ : Int
  keys : List Text
  members : List (Int × Int)
  mod : Int
  born : Int
  deriving DecidableEq, Inhabited
/-- What an account was made with. -/
structure CfgP where
  user : Text
  pass : Text
  maxMails : Int
  maxBoxes : Int
  maxSize : Int
  maxUid : Int
  maxMod : Int
  maxLog : Int
  maxGet : Int
  deriving DecidableEq, Inhabited
/-- An account. -/
structure Acc where
  cfg : CfgP
  clock : Int
  boxes : List BoxP
  mails : List MailP
  log : LogV
  lastBox : Int
  lastId : Int
  octets : Int

/-- The place of the first that is so; below nought: there is none. -/
def place {α : Type} (p : α → Bool) : List α → Int
  | [] => -1
  | x :: r => if p x then 0 else if place p r < 0 then -1 else place p r + 1
theorem place_ge {α : Type} (p : α → Bool) : ∀ l : List α, -1 ≤ place p l
  | [] => Int.le_refl _
  | x :: r => by
    unfold place
    have := place_ge p r
    split
    · omega
    · split <;> omega
theorem place_lt {α : Type} (p : α → Bool) : ∀ l : List α, place p l < l.length
  | [] => by simp [place]
  | x :: r => by
    unfold place
    have := place_lt p r
    rw [List.length_cons]
    split
    · omega
    · split <;> omega

/-- Whole numbers, rising, each once. -/
def insI (x : Int) : List Int → List Int
  | [] => [x]
  | y :: r => if x < y then x :: y :: r else if x = y then y :: r else y :: insI x r
def rise (l : List Int) : List Int := l.foldl (fun acc x => insI x acc) []

/-- The first mailbox of an Id, turned. -/
def setBox (id : Int) (f : BoxP → BoxP) : List BoxP → List BoxP
  | [] => []
  | b :: r => if b.id = id then f b :: r else b :: setBox id f r
def boxOf (id : Int) (l : List BoxP) : Int := place (fun b => decide (b.id = id)) l
def hasBox (l : List BoxP) (id : Int) : Bool := l.any fun b => decide (b.id = id)
def turnBoxes (mod : Int) (ids : List Int) (l : List BoxP) : List BoxP := ids.foldl (fun bs id => setBox id (fun b => { b with mod := mod }) bs) l
def turnEnts (mod : Int) (ids : List Int) : List E4 := ids.map fun id => ⟨mod, 1, id, 2⟩
/-- A mailbox's next number; 0: there is no such mailbox. -/
def nextOf (l : List BoxP) (id : Int) : Int := match l.find? (fun b => decide (b.id = id)) with
  | some b => b.next
  | none => 0
def bump (id : Int) (l : List BoxP) : List BoxP := setBox id (fun b => { b with next := b.next + 1 }) l
/-- Each of these gets a number more. -/
def numbers (ids : List Int) (l : List BoxP) : List BoxP × List (Int × Int) := ids.foldl (fun s id => (bump id s.1, s.2 ++ [(id, nextOf s.1 id)])) (l, [])

def Acc.ends (x : Acc) : Bool := decide (x.cfg.maxMod ≤ x.clock)
def Acc.spent (x : Acc) (id : Int) : Bool := decide (x.cfg.maxUid < nextOf x.boxes id)

def inboxT : Text := [73, 78, 66, 79, 88]
def seenT : Text := [36, 115, 101, 101, 110]

def namedP (x : Acc) (name : Text) (parent but : Int) : Int :=
  if parent ≠ 0 ∧ hasBox x.boxes parent = false then 6
  else if (parent = 0 ∧ lowL name = lowL inboxT) ∨ x.boxes.any (fun b => decide (b.id ≠ but) && (decide (b.parent = parent) && decide (b.name = name))) = true then 5
  else if x.cfg.maxBoxes ≤ ((x.boxes.filter fun b => decide (b.id ≠ but)).length : Int) then 8
  else 0

/-- Is a mailbox another one, or beneath it? 'fuel' steps up. -/
def underP (l : List BoxP) (top : Int) : Nat → Int → Bool
  | 0, _ => false
  | f + 1, id => if id = top then true else match l.find? (fun b => decide (b.id = id)) with
    | none => false
    | some b => underP l top f b.parent

def makeP (right : Text → Bool) (x : Acc) (name : Text) (parent : Int) : Acc × Int × Int :=
  if right name = false then (x, 0, 1)
  else if namedP x name parent 0 ≠ 0 then (x, 0, namedP x name parent 0)
  else if x.ends then (x, 0, 11)
  else ({ x with clock := x.clock + 1, lastBox := x.lastBox + 1, boxes := x.boxes ++ [⟨x.lastBox + 1, name, parent, x.clock + 1, 1, x.clock + 1⟩], log := x.log.add [⟨x.clock + 1, 1, x.lastBox + 1, 1⟩] }, x.lastBox + 1, 0)

def renameP (right : Text → Bool) (x : Acc) (id : Int) (name : Text) (parent : Int) : Acc × Int :=
  match x.boxes.find? (fun b => decide (b.id = id)) with
  | none => (x, 6)
  | some b =>
    if right name = false ∨ id = 1 then (x, 1)
    else if namedP x name parent id ≠ 0 then (x, namedP x name parent id)
    else if underP x.boxes id (x.boxes.length + 1) parent then (x, 10)
    else if b.name = name ∧ b.parent = parent then (x, 0)
    else if x.ends then (x, 11)
    else ({ x with clock := x.clock + 1, boxes := turnBoxes (x.clock + 1) [id] (setBox id (fun b => { b with name := name, parent := parent }) x.boxes), log := x.log.add (turnEnts (x.clock + 1) [id]) }, 0)

def holdsP (m : MailP) (id : Int) : Bool := m.members.any fun p => decide (p.1 = id)
def dropP (x : Acc) (id : Int) : Acc × Int :=
  if hasBox x.boxes id = false then (x, 6)
  else if id = 1 then (x, 1)
  else if x.boxes.any (fun b => decide (b.parent = id)) || x.mails.any (fun m => holdsP m id) then (x, 10)
  else if x.ends then (x, 11)
  else ({ x with clock := x.clock + 1, boxes := x.boxes.eraseIdx (boxOf id x.boxes).toNat, log := x.log.add [⟨x.clock + 1, 1, id, 3⟩] }, 0)

/-- The thread that a text belongs to by a head's reading of it; 0: none that is there. -/
def threadP (head : Text → Text → Text) (x : Acc) (t : Text) : Int :=
  if head t [105, 110, 45, 114, 101, 112, 108, 121, 45, 116, 111] = [] then 0
  else match x.mails.find? (fun m => decide (head m.text [109, 101, 115, 115, 97, 103, 101, 45, 105, 100] = head t [105, 110, 45, 114, 101, 112, 108, 121, 45, 116, 111])) with
    | some m => m.thread
    | none => 0

def appendK (head : Text → Text → Text) (x : Acc) (boxes : List Int) (kf : List Text × Int) (at_ : Int) (t : Text) : Acc × Int × Int :=
  if boxes = [] ∨ at_ < 0 ∨ 253402300799 < at_ then (x, 0, 1)
  else if kf.2 ≠ 0 then (x, 0, kf.2)
  else if (rise boxes).any (fun id => !hasBox x.boxes id) then (x, 0, 6)
  else if x.cfg.maxMails ≤ (x.mails.length : Int) ∨ x.cfg.maxSize - x.octets < (t.length : Int) then (x, 0, 8)
  else if x.ends || (rise boxes).any x.spent then (x, 0, 11)
  else
    let id := x.lastId + 1
    let mod := x.clock + 1
    let th := threadP head x t
    let n := numbers (rise boxes) x.boxes
    ({ x with clock := mod, lastId := id, boxes := turnBoxes mod (rise boxes) n.1, octets := x.octets + t.length,
              mails := x.mails ++ [⟨id, if th = 0 then id else th, t, at_, kf.1, n.2, mod, mod⟩],
              log := x.log.add (turnEnts mod (rise boxes) ++ [⟨mod, 2, id, 1⟩, ⟨mod, 3, if th = 0 then id else th, if th = 0 then 1 else 2⟩]) }, id, 0)
def appendP (head : Text → Text → Text) (x : Acc) (boxes : List Int) (keys : List Text) (at_ : Int) (t : Text) : Acc × Int × Int := appendK head x boxes (keysF keys) at_ t

def mailOf (id : Int) (l : List MailP) : Int := place (fun m => decide (m.id = id)) l
def setMail (id : Int) (f : MailP → MailP) : List MailP → List MailP
  | [] => []
  | m :: r => if m.id = id then f m :: r else m :: setMail id f r

def keysK (x : Acc) (id : Int) (kf : List Text × Int) : Acc × Int :=
  match x.mails.find? (fun m => decide (m.id = id)) with
  | none => (x, 6)
  | some m =>
    if kf.2 ≠ 0 then (x, kf.2)
    else if kf.1 = m.keys then (x, 0)
    else if x.ends then (x, 11)
    else
      let mod := x.clock + 1
      let ids := if decide (seenT ∈ kf.1) ≠ decide (seenT ∈ m.keys) then rise (m.members.map (·.1)) else []
      ({ x with clock := mod, boxes := turnBoxes mod ids x.boxes, mails := setMail id (fun m => { m with keys := kf.1, mod := mod }) x.mails,
                log := x.log.add (turnEnts mod ids ++ [⟨mod, 2, id, 2⟩]) }, 0)
def keysP (x : Acc) (id : Int) (keys : List Text) : Acc × Int := keysK x id (keysF keys)

def insM (p : Int × Int) : List (Int × Int) → List (Int × Int)
  | [] => [p]
  | q :: r => if p.1 < q.1 then p :: q :: r else q :: insM p r
def sortM (l : List (Int × Int)) : List (Int × Int) := l.foldl (fun acc p => insM p acc) []

def placeP (x : Acc) (id : Int) (boxes : List Int) : Acc × Int :=
  match x.mails.find? (fun m => decide (m.id = id)) with
  | none => (x, 6)
  | some m =>
    if boxes = [] then (x, 1)
    else if (rise boxes).any (fun id => !hasBox x.boxes id) then (x, 6)
    else
      let was := m.members.map (·.1)
      let fresh := (rise boxes).filter fun b => !decide (b ∈ was)
      let left := was.filter fun b => !decide (b ∈ rise boxes)
      if fresh.length + left.length = 0 then (x, 0)
      else if x.ends || fresh.any x.spent then (x, 11)
      else
        let mod := x.clock + 1
        let n := numbers fresh x.boxes
        ({ x with clock := mod, boxes := turnBoxes mod (rise (left ++ fresh)) n.1, mails := setMail id (fun m => { m with members := sortM ((m.members.filter fun p => !decide (p.1 ∈ left)) ++ n.2), mod := mod }) x.mails,
                  log := x.log.add (turnEnts mod (rise (left ++ fresh)) ++ [⟨mod, 2, id, 2⟩]) }, 0)

def destroyP (x : Acc) (id : Int) : Acc × Int :=
  match x.mails.find? (fun m => decide (m.id = id)) with
  | none => (x, 6)
  | some m =>
    if x.ends then (x, 11)
    else
      let mod := x.clock + 1
      let rest := x.mails.eraseIdx (mailOf id x.mails).toNat
      let how := if rest.any (fun y => decide (y.thread = m.thread)) then 2 else 3
      let ids := rise (m.members.map (·.1))
      ({ x with clock := mod, boxes := turnBoxes mod ids x.boxes, mails := rest, octets := x.octets - m.text.length,
                log := x.log.add (turnEnts mod ids ++ [⟨mod, 2, id, 3⟩, ⟨mod, 3, m.thread, how⟩]) }, 0)

def newP (c : CfgP) : Acc := ⟨c, 1, [⟨1, inboxT, 0, 1, 1, 1⟩], [], ⟨c.maxLog, [], 0⟩, 1, 0, 0⟩

end Go.Proofs.YtgkfknbhkonfdaaGreatDoor

namespace Go.Proofs.YtgkfknbhkonfdaaGreatDoor

def ids (l : List BoxP) : List Int := l.map (·.id)
theorem hasBox_iff (l : List BoxP) (id : Int) : hasBox l id = true ↔ id ∈ ids l := by
  simp [hasBox, ids]

/-! ### The first of an Id -/
theorem setBox_length (id : Int) (f : BoxP → BoxP) : ∀ l, (setBox id f l).length = l.length
  | [] => rfl
  | b :: r => by
    unfold setBox
    split
    · rfl
    · rw [List.length_cons, List.length_cons, setBox_length id f r]
theorem setBox_none (id : Int) (f : BoxP → BoxP) : ∀ l, id ∉ ids l → setBox id f l = l
  | [], _ => rfl
  | b :: r, h => by
    have h1 : ¬ b.id = id := fun e => h (by simp [ids, e])
    have h2 : id ∉ ids r := fun e => h (by simp only [ids, List.map_cons, List.mem_cons]; exact .inr e)
    rw [setBox, if_neg h1, setBox_none id f r h2]
theorem setBox_map (id : Int) (f : BoxP → BoxP) : ∀ l, (ids l).Nodup → setBox id f l = l.map (fun b => if b.id = id then f b else b)
  | [], _ => rfl
  | b :: r, h => by
    have h' : b.id ∉ ids r ∧ (ids r).Nodup := by simpa [ids] using h
    by_cases he : b.id = id
    · have hr : ∀ c ∈ r, ¬ c.id = id := fun c hc e => h'.1 (by rw [he, ← e]; exact List.mem_map_of_mem hc)
      rw [setBox, if_pos he, List.map_cons, if_pos he]
      congr 1
      conv => lhs; rw [← List.map_id r]
      exact List.map_congr_left fun c hc => by simp [hr c hc]
    · rw [setBox, if_neg he, List.map_cons, if_neg he, setBox_map id f r h'.2]
theorem ids_map (l : List BoxP) (f : BoxP → BoxP) (hf : ∀ b, (f b).id = b.id) : ids (l.map f) = ids l := by
  simp only [ids, List.map_map]
  exact List.map_congr_left fun b _ => hf b

/-- Mailboxes turned, as a map. -/
theorem turnBoxes_map (mod : Int) : ∀ (is : List Int) (l : List BoxP), (ids l).Nodup → turnBoxes mod is l = l.map (fun b => if b.id ∈ is then { b with mod := mod } else b)
  | [], l, _ => by simp [turnBoxes]
  | i :: r, l, h => by
    have h1 := setBox_map i (fun b => { b with mod := mod }) l h
    have h2 : turnBoxes mod (i :: r) l = turnBoxes mod r (setBox i (fun b => { b with mod := mod }) l) := rfl
    rw [h2, h1, turnBoxes_map mod r _ (by rw [ids_map]; exact h; intro b; split <;> rfl), List.map_map]
    refine List.map_congr_left fun b _ => ?_
    by_cases hb : b.id = i
    · by_cases hr : b.id ∈ r
      · simp [hb]
      · simp [hb]
    · simp [hb]

theorem nextOf_mem {l : List BoxP} (h : (ids l).Nodup) {b : BoxP} (hb : b ∈ l) : nextOf l b.id = b.next := by
  have : l.find? (fun c => decide (c.id = b.id)) = some b := by
    induction l with
    | nil => cases hb
    | cons c r ih =>
      have h' : c.id ∉ ids r ∧ (ids r).Nodup := by simpa [ids] using h
      rcases List.mem_cons.1 hb with rfl | hb
      · simp
      · have hne : ¬ c.id = b.id := fun e => h'.1 (by rw [e]; exact List.mem_map_of_mem hb)
        rw [List.find?_cons_of_neg (by simpa using hne)]
        exact ih h'.2 hb
  rw [nextOf, this]

def bumpAll (is : List Int) (l : List BoxP) : List BoxP := l.map fun b => if b.id ∈ is then { b with next := b.next + 1 } else b
theorem ids_bumpAll (is : List Int) (l : List BoxP) : ids (bumpAll is l) = ids l := ids_map l _ fun b => by split <;> rfl
theorem nextOf_bump_other {l : List BoxP} (h : (ids l).Nodup) (i j : Int) (hij : i ≠ j) : nextOf (bump i l) j = nextOf l j := by
  rw [bump, setBox_map _ _ _ h]
  unfold nextOf
  induction l with
  | nil => rfl
  | cons c r ih =>
    have h' : c.id ∉ ids r ∧ (ids r).Nodup := by simpa [ids] using h
    by_cases hc : c.id = j
    · have hci : ¬ c.id = i := fun e => hij (e.symm.trans hc)
      subst hc
      simp [hci]
    · have h1 : ¬ (if c.id = i then { c with next := c.next + 1 } else c).id = j := by
        split
        · exact hc
        · exact hc
      rw [List.map_cons, List.find?_cons_of_neg (by simpa using h1), List.find?_cons_of_neg (by simpa using hc)]
      exact ih h'.2
theorem numbers_from : ∀ (is : List Int) (l : List BoxP) (acc : List (Int × Int)), (ids l).Nodup → is.Nodup →
    is.foldl (fun s id => (bump id s.1, s.2 ++ [(id, nextOf s.1 id)])) (l, acc) = (bumpAll is l, acc ++ is.map fun id => (id, nextOf l id))
  | [], l, acc, _, _ => by simp [bumpAll]
  | i :: r, l, acc, h, hn => by
    have hn' : i ∉ r ∧ r.Nodup := by simpa using hn
    have hb : bump i l = l.map (fun b => if b.id = i then { b with next := b.next + 1 } else b) := setBox_map i _ l h
    have hnd : (ids (bump i l)).Nodup := by rw [hb, ids_map]; exact h; intro b; split <;> rfl
    rw [List.foldl_cons, numbers_from r (bump i l) _ hnd hn'.2]
    refine Prod.ext ?_ ?_
    · simp only [bumpAll]
      rw [hb, List.map_map]
      refine List.map_congr_left fun b _ => ?_
      by_cases hbi : b.id = i
      · subst hbi
        simp [hn'.1]
      · simp [hbi]
    · simp only [List.append_assoc, List.map_cons, List.cons_append, List.nil_append]
      congr 2
      exact List.map_congr_left fun j hj => by rw [nextOf_bump_other h i j (fun e => hn'.1 (e ▸ hj))]
theorem numbers_eq (is : List Int) (l : List BoxP) (h : (ids l).Nodup) (hn : is.Nodup) : numbers is l = (bumpAll is l, is.map fun id => (id, nextOf l id)) := by
  unfold numbers
  rw [numbers_from is l [] h hn, List.nil_append]

/-! ### Rising numbers -/
theorem mem_insI (x y : Int) : ∀ l, y ∈ insI x l ↔ y = x ∨ y ∈ l
  | [] => by simp [insI]
  | z :: r => by
    unfold insI
    split
    · simp
    · split
      · rename_i h; subst h; simp
      · simp only [List.mem_cons, mem_insI x y r]
        constructor
        · rintro (h | h | h)
          · exact .inr (.inl h)
          · exact .inl h
          · exact .inr (.inr h)
        · rintro (h | h | h)
          · exact .inr (.inl h)
          · exact .inl h
          · exact .inr (.inr h)
theorem insI_sorted (x : Int) : ∀ l : List Int, l.Pairwise (· < ·) → (insI x l).Pairwise (· < ·)
  | [], _ => by simp [insI]
  | z :: r, h => by
    obtain ⟨h1, h2⟩ := List.pairwise_cons.1 h
    unfold insI
    split
    · rename_i hx
      refine List.pairwise_cons.2 ⟨fun y hy => ?_, h⟩
      rcases List.mem_cons.1 hy with rfl | hy
      · exact hx
      · have := h1 y hy
        omega
    · split
      · exact h
      · refine List.pairwise_cons.2 ⟨fun y hy => ?_, insI_sorted x r h2⟩
        rcases (mem_insI x y r).1 hy with rfl | hy
        · omega
        · exact h1 y hy
theorem rise_from : ∀ (l acc : List Int), acc.Pairwise (· < ·) → (l.foldl (fun acc x => insI x acc) acc).Pairwise (· < ·) ∧ ∀ y, y ∈ l.foldl (fun acc x => insI x acc) acc ↔ y ∈ acc ∨ y ∈ l
  | [], acc, h => by simp [h]
  | x :: r, acc, h => by
    obtain ⟨h1, h2⟩ := rise_from r (insI x acc) (insI_sorted x acc h)
    refine ⟨h1, fun y => ?_⟩
    rw [List.foldl_cons, h2, mem_insI, List.mem_cons]
    constructor
    · rintro ((h | h) | h)
      · exact .inr (.inl h)
      · exact .inl h
      · exact .inr (.inr h)
    · rintro (h | h | h)
      · exact .inl (.inr h)
      · exact .inl (.inl h)
      · exact .inr h
theorem rise_sorted (l : List Int) : (rise l).Pairwise (· < ·) := (rise_from l [] List.Pairwise.nil).1
theorem mem_rise (l : List Int) (y : Int) : y ∈ rise l ↔ y ∈ l := by
  have := (rise_from l [] List.Pairwise.nil).2 y
  simpa [rise] using this
theorem nodup_of_rising {l : List Int} (h : l.Pairwise (· < ·)) : l.Nodup := h.imp fun hab => by omega
theorem rise_nodup (l : List Int) : (rise l).Nodup := nodup_of_rising (rise_sorted l)
/-- Two rising lists of the same numbers are one. -/
theorem rising_unique : ∀ {l m : List Int}, l.Pairwise (· < ·) → m.Pairwise (· < ·) → (∀ y, y ∈ l ↔ y ∈ m) → l = m
  | [], [], _, _, _ => rfl
  | [], y :: m, _, _, h => by have := (h y).2 (by simp); simp at this
  | x :: l, [], _, _, h => by have := (h x).1 (by simp); simp at this
  | x :: l, y :: m, hl, hm, h => by
    obtain ⟨a1, a2⟩ := List.pairwise_cons.1 hl
    obtain ⟨b1, b2⟩ := List.pairwise_cons.1 hm
    have hxy : x = y := by
      have h1 := (h x).1 (by simp)
      have h2 := (h y).2 (by simp)
      rcases List.mem_cons.1 h1 with h1 | h1
      · exact h1
      · rcases List.mem_cons.1 h2 with h2 | h2
        · exact h2.symm
        · have := b1 x h1
          have := a1 y h2
          omega
    subst hxy
    rw [rising_unique a2 b2 fun z => ?_]
    constructor
    · intro hz
      have h1 := (h z).1 (List.mem_cons_of_mem _ hz)
      rcases List.mem_cons.1 h1 with rfl | h1
      · have := a1 z hz
        omega
      · exact h1
    · intro hz
      have h1 := (h z).2 (List.mem_cons_of_mem _ hz)
      rcases List.mem_cons.1 h1 with rfl | h1
      · have := b1 z hz
        omega
      · exact h1
theorem rise_self {l : List Int} (h : l.Pairwise (· < ·)) : rise l = l := rising_unique (rise_sorted l) h (mem_rise l)
theorem rise_length (l : List Int) : (rise l).length ≤ l.length := by
  have h : ∀ (l acc : List Int), (l.foldl (fun acc x => insI x acc) acc).length ≤ acc.length + l.length := by
    intro l
    induction l with
    | nil => intro acc; simp
    | cons x r ih =>
      intro acc
      have h1 := ih (insI x acc)
      have h2 : (insI x acc).length ≤ acc.length + 1 := by
        clear h1 ih
        induction acc with
        | nil => simp [insI]
        | cons y acc ih2 =>
          unfold insI
          split
          · simp
          · split
            · simp
            · simp only [List.length_cons]; omega
      rw [List.foldl_cons, List.length_cons]
      omega
  simpa [rise] using h l []

end Go.Proofs.YtgkfknbhkonfdaaGreatDoor

namespace Go.Proofs.YtgkfknbhkonfdaaGreatDoor

structure CfgOk (c : CfgP) : Prop where
  mails : 1 ≤ c.maxMails ∧ c.maxMails ≤ 2147483647
  boxes : 1 ≤ c.maxBoxes ∧ c.maxBoxes ≤ 2147483647
  size : 1 ≤ c.maxSize ∧ c.maxSize ≤ 2147483647
  uid : 1 ≤ c.maxUid ∧ c.maxUid ≤ 2147483647
  mod : 1 ≤ c.maxMod ∧ c.maxMod ≤ 2147483647
  log : 1 ≤ c.maxLog ∧ c.maxLog ≤ 2147483647
  get : 1 ≤ c.maxGet ∧ c.maxGet ≤ 2147483647

/-- A mailbox of an account whose last one is 'last'. -/
structure BoxOk (c : CfgP) (last : Int) (b : BoxP) : Prop where
  id : 1 ≤ b.id ∧ b.id ≤ last
  next : 1 ≤ b.next ∧ b.next ≤ c.maxUid + 1
  name : b.name.length ≤ 64
/-- An email's members: some, rising, each of a mailbox that there is, each number below the mailbox's next. -/
structure MemOk (bs : List BoxP) (l : List (Int × Int)) : Prop where
  some_ : l ≠ []
  rising : (l.map (·.1)).Pairwise (· < ·)
  each : ∀ p ∈ l, p.1 ∈ ids bs ∧ 1 ≤ p.2 ∧ p.2 < nextOf bs p.1
structure MailOk (bs : List BoxP) (last : Int) (m : MailP) : Prop where
  id : 1 ≤ m.id ∧ m.id ≤ last
  keys : m.keys.length ≤ 16
  mem : MemOk bs m.members

def sizeM (l : List MailP) : Int := ((l.map fun m => m.text.length).sum : Nat)
theorem sizeM_append (a b : List MailP) : sizeM (a ++ b) = sizeM a + sizeM b := by simp [sizeM]
theorem sizeM_one (m : MailP) : sizeM [m] = m.text.length := by simp [sizeM]
theorem sizeM_nonneg (l : List MailP) : 0 ≤ sizeM l := Int.natCast_nonneg _
theorem sizeM_mem {l : List MailP} {m : MailP} (h : m ∈ l) : (m.text.length : Int) ≤ sizeM l := by
  obtain ⟨a, b, rfl⟩ := List.append_of_mem h
  rw [sizeM_append, show m :: b = [m] ++ b from rfl, sizeM_append, sizeM_one]
  have := sizeM_nonneg a
  have := sizeM_nonneg b
  omega

structure Fit (x : Acc) : Prop where
  cfg : CfgOk x.cfg
  clock : 1 ≤ x.clock ∧ x.clock ≤ x.cfg.maxMod
  lastBox : 1 ≤ x.lastBox ∧ x.lastBox ≤ x.clock
  lastId : 0 ≤ x.lastId ∧ x.lastId ≤ x.clock
  nb : (x.boxes.length : Int) ≤ x.clock
  nm : (x.mails.length : Int) ≤ x.clock
  idsB : (ids x.boxes).Nodup
  box : ∀ b ∈ x.boxes, BoxOk x.cfg x.lastBox b
  idsM : (x.mails.map (·.id)).Nodup
  mail : ∀ m ∈ x.mails, MailOk x.boxes x.lastId m
  octets : x.octets = sizeM x.mails ∧ x.octets ≤ x.cfg.maxSize
  log : x.log.most = x.cfg.maxLog ∧ (x.log.es.length : Int) ≤ x.cfg.maxLog

/-- Mailboxes that are the same but for numbers that went on and clocks. -/
structure BoxStep (c : CfgP) (l l' : List BoxP) : Prop where
  ids : ids l' = ids l
  ok : ∀ last, (∀ b ∈ l, BoxOk c last b) → ∀ b ∈ l', BoxOk c last b
  next : ∀ i, nextOf l i ≤ nextOf l' i

theorem BoxStep.refl (c : CfgP) (l : List BoxP) : BoxStep c l l := ⟨rfl, fun _ h => h, fun _ => Int.le_refl _⟩
theorem BoxStep.length {c : CfgP} {l l' : List BoxP} (h : BoxStep c l l') : l'.length = l.length := by
  have := congrArg List.length h.ids
  simpa [Proofs.YtgkfknbhkonfdaaGreatDoor.ids] using this
theorem BoxStep.trans {c : CfgP} {l l' l'' : List BoxP} (h : BoxStep c l l') (k : BoxStep c l' l'') : BoxStep c l l'' :=
  ⟨k.ids.trans h.ids, fun last hl => k.ok last (h.ok last hl), fun i => Int.le_trans (h.next i) (k.next i)⟩
theorem nextOf_map (l : List BoxP) (f : BoxP → BoxP) (hf : ∀ b, (f b).id = b.id) (hn : ∀ b ∈ l, b.next ≤ (f b).next) : ∀ i, nextOf l i ≤ nextOf (l.map f) i := by
  intro i
  induction l with
  | nil => exact Int.le_refl _
  | cons b r ih =>
    unfold nextOf
    by_cases hb : b.id = i
    · have h1 : (f b).id = i := (hf b).trans hb
      rw [List.map_cons, List.find?_cons_of_pos (by simpa using hb), List.find?_cons_of_pos (by simpa using h1)]
      exact hn b (by simp)
    · have h1 : ¬ (f b).id = i := fun e => hb ((hf b).symm.trans e)
      rw [List.map_cons, List.find?_cons_of_neg (by simpa using hb), List.find?_cons_of_neg (by simpa using h1)]
      exact ih fun b hb => hn b (by simp [hb])
theorem boxStep_map (c : CfgP) (l : List BoxP) (f : BoxP → BoxP) (hf : ∀ b, (f b).id = b.id) (hn : ∀ b ∈ l, b.next ≤ (f b).next) (hm : ∀ b ∈ l, (f b).next ≤ c.maxUid + 1 ∨ (f b).next = b.next) (hs : ∀ b ∈ l, (f b).name = b.name) : BoxStep c l (l.map f) := by
  refine ⟨ids_map l f hf, fun last h b hb => ?_, nextOf_map l f hf hn⟩
  obtain ⟨a, ha, rfl⟩ := List.mem_map.1 hb
  have h1 := h a ha
  have h2 := hn a ha
  refine ⟨by rw [hf]; exact h1.id, ⟨by have := h1.next.1; omega, ?_⟩, by rw [hs a ha]; exact h1.name⟩
  rcases hm a ha with h3 | h3
  · exact h3
  · rw [h3]
    exact h1.next.2
theorem boxStep_turn (c : CfgP) (mod : Int) (is : List Int) (l : List BoxP) (hn : (ids l).Nodup) : BoxStep c l (turnBoxes mod is l) := by
  rw [turnBoxes_map mod is l hn]
  refine boxStep_map c l _ (fun b => by split <;> rfl) (fun b _ => ?_) (fun b _ => .inr ?_) (fun b _ => ?_) <;> split <;> first | rfl | exact Int.le_refl _
theorem boxStep_bump (c : CfgP) (is : List Int) (l : List BoxP) (hs : ∀ b ∈ l, b.id ∈ is → b.next ≤ c.maxUid) : BoxStep c l (bumpAll is l) := by
  refine boxStep_map c l _ (fun b => by split <;> rfl) (fun b _ => ?_) (fun b hb => ?_) (fun b _ => by split <;> rfl)
  · split
    · show b.next ≤ b.next + 1
      omega
    · exact Int.le_refl _
  · split
    · rename_i h
      have := hs b hb h
      left
      show b.next + 1 ≤ c.maxUid + 1
      omega
    · exact .inr rfl
theorem MemOk.step {c : CfgP} {l l' : List BoxP} (h : BoxStep c l l') {m : List (Int × Int)} (hm : MemOk l m) : MemOk l' m :=
  ⟨hm.some_, hm.rising, fun p hp => by
    obtain ⟨h1, h2, h3⟩ := hm.each p hp
    exact ⟨by rw [h.ids]; exact h1, h2, Int.lt_of_lt_of_le h3 (h.next _)⟩⟩
theorem MailOk.step {c : CfgP} {l l' : List BoxP} {last : Int} (h : BoxStep c l l') {m : MailP} (hm : MailOk l last m) : MailOk l' last m := ⟨hm.id, hm.keys, hm.mem.step h⟩
theorem MailOk.later {l : List BoxP} {last last' : Int} (h : last ≤ last') {m : MailP} (hm : MailOk l last m) : MailOk l last' m := ⟨⟨hm.id.1, Int.le_trans hm.id.2 h⟩, hm.keys, hm.mem⟩
theorem log_add_ok {c : CfgP} {g : LogV} (hc : CfgOk c) (h : g.most = c.maxLog ∧ (g.es.length : Int) ≤ c.maxLog) (e : List E4) : (g.add e).most = c.maxLog ∧ ((g.add e).es.length : Int) ≤ c.maxLog := by
  have h1 := g.add_length e (by rw [h.1]; exact hc.log.1)
  exact ⟨h1.2.trans h.1, by rw [← h.1]; exact h1.1⟩

theorem newP_fit {c : CfgP} (hc : CfgOk c) : Fit (newP c) := by
  refine ⟨hc, ⟨Int.le_refl _, hc.mod.1⟩, ⟨Int.le_refl _, Int.le_refl _⟩, ⟨Int.le_refl _, by show (0:Int) ≤ 1; decide⟩, by simp [newP], by simp [newP], by simp [newP, ids], fun b hb => ?_, by simp [newP], fun m hm => by simp [newP] at hm, ⟨rfl, ?_⟩, rfl, ?_⟩
  · obtain rfl : b = ⟨1, inboxT, 0, 1, 1, 1⟩ := by simpa [newP] using hb
    exact ⟨⟨by decide, by show (1:Int) ≤ 1; omega⟩, ⟨by decide, by show (1:Int) ≤ c.maxUid + 1; have := hc.uid.1; omega⟩, by decide⟩
  · show (0:Int) ≤ c.maxSize
    have := hc.size.1
    omega
  · show (([] : List E4).length : Int) ≤ c.maxLog
    have := hc.log.1
    simp
    omega

theorem nextOf_bumpAll {l : List BoxP} {is : List Int} (h : (ids l).Nodup) {i : Int} (hi : i ∈ is) (hl : i ∈ ids l) : nextOf (bumpAll is l) i = nextOf l i + 1 := by
  obtain ⟨b, hb, rfl⟩ := List.mem_map.1 hl
  have h1 : ({ b with next := b.next + 1 } : BoxP) ∈ bumpAll is l := List.mem_map.2 ⟨b, hb, by rw [if_pos hi]⟩
  have h2 := nextOf_mem (l := bumpAll is l) (by rw [ids_bumpAll]; exact h) h1
  rw [nextOf_mem h hb]
  exact h2
theorem hasBox_of_rise {l : List BoxP} {is : List Int} (h : (rise is).any (fun id => !hasBox l id) = false) {i : Int} (hi : i ∈ rise is) : i ∈ ids l := by
  have h1 : ¬ (!hasBox l i) = true := fun h2 => by
    have h3 : (rise is).any (fun id => !hasBox l id) = true := List.any_eq_true.2 ⟨i, hi, h2⟩
    rw [h] at h3
    cases h3
  exact (hasBox_iff l i).1 (by simpa using h1)

theorem Fit.nextOf_pos {x : Acc} (h : Fit x) {i : Int} (hi : i ∈ ids x.boxes) : 1 ≤ nextOf x.boxes i := by
  obtain ⟨b, hb, rfl⟩ := List.mem_map.1 hi
  rw [nextOf_mem h.idsB hb]
  exact (h.box b hb).next.1

/-- A step of the clock that leaves the emails' ids alone: what an account wants of its new mailboxes, emails, log. -/
theorem appendP_fit (head : Text → Text → Text) {x : Acc} (h : Fit x) (boxes : List Int) (keys : List Text) (at_ : Int) (t : Text) (hk : (keysF keys).1.length ≤ 16) : Fit (appendP head x boxes keys at_ t).1 := by
  unfold appendP appendK
  split
  · exact h
  · rename_i hb
    split
    · exact h
    · split
      · exact h
      · rename_i hhas
        split
        · exact h
        · rename_i hfull
          split
          · exact h
          · rename_i hend
            simp only [Bool.or_eq_true, not_or, Bool.not_eq_true] at hend
            obtain ⟨hend1, hend2⟩ := hend
            have hclock : x.clock + 1 ≤ x.cfg.maxMod := by
              have : ¬ x.cfg.maxMod ≤ x.clock := by simpa [Acc.ends] using hend1
              omega
            have hhas' : (rise boxes).any (fun id => !hasBox x.boxes id) = false := by simpa using hhas
            have hspent : ∀ i ∈ rise boxes, nextOf x.boxes i ≤ x.cfg.maxUid := by
              intro i hi
              have h1 : ¬ x.spent i = true := fun h2 => by
                have h3 : (rise boxes).any x.spent = true := List.any_eq_true.2 ⟨i, hi, h2⟩
                rw [hend2] at h3
                cases h3
              have h4 : ¬ x.cfg.maxUid < nextOf x.boxes i := by simpa [Acc.spent] using h1
              omega
            have hnum := numbers_eq (rise boxes) x.boxes h.idsB (rise_nodup boxes)
            have hs1 : BoxStep x.cfg x.boxes (bumpAll (rise boxes) x.boxes) := boxStep_bump _ _ _ fun b hb hi => by
              have := hspent _ hi
              rwa [nextOf_mem h.idsB hb] at this
            have hs2 : BoxStep x.cfg (bumpAll (rise boxes) x.boxes) (turnBoxes (x.clock + 1) (rise boxes) (bumpAll (rise boxes) x.boxes)) := boxStep_turn _ _ _ _ (by rw [ids_bumpAll]; exact h.idsB)
            have hs := hs1.trans hs2
            have hne : boxes ≠ [] := fun e => hb (.inl e)
            simp only [hnum]
            refine ⟨h.cfg, ⟨by have := h.clock.1; show 1 ≤ x.clock + 1; omega, hclock⟩, ⟨h.lastBox.1, by have := h.lastBox.2; show x.lastBox ≤ x.clock + 1; omega⟩, ⟨by have := h.lastId.1; show 0 ≤ x.lastId + 1; omega, by have := h.lastId.2; show x.lastId + 1 ≤ x.clock + 1; omega⟩, ?_, ?_, ?_, ?_, ?_, ?_, ?_, log_add_ok h.cfg h.log _⟩
            · have := h.nb
              show ((turnBoxes (x.clock + 1) (rise boxes) (bumpAll (rise boxes) x.boxes)).length : Int) ≤ x.clock + 1
              rw [hs.length]
              omega
            · have := h.nm
              show ((x.mails ++ [_]).length : Int) ≤ x.clock + 1
              rw [List.length_append, List.length_singleton]
              omega
            · show (ids (turnBoxes (x.clock + 1) (rise boxes) (bumpAll (rise boxes) x.boxes))).Nodup
              rw [hs.ids]
              exact h.idsB
            · exact hs.ok _ h.box
            · show ((x.mails ++ [_]).map MailP.id).Nodup
              rw [List.map_append, List.nodup_append]
              refine ⟨h.idsM, by simp, fun a ha b hb => ?_⟩
              obtain ⟨m, hm, rfl⟩ := List.mem_map.1 ha
              have h1 := (h.mail m hm).id.2
              have h2 : b = x.lastId + 1 := by simpa using hb
              rw [h2]
              omega
            · intro m hm
              rcases List.mem_append.1 hm with hm | hm
              · exact ((h.mail m hm).step hs).later (by show x.lastId ≤ x.lastId + 1; omega)
              · rw [List.mem_singleton] at hm
                subst hm
                refine ⟨⟨by have := h.lastId.1; show 1 ≤ x.lastId + 1; omega, Int.le_refl _⟩, hk, ?_⟩
                refine ⟨?_, ?_, fun p hp => ?_⟩
                · intro e
                  obtain ⟨i, r, hr⟩ : ∃ i r, boxes = i :: r := by
                    cases boxes with
                    | nil => exact absurd rfl hne
                    | cons i r => exact ⟨i, r, rfl⟩
                  have h1 : i ∈ rise boxes := (mem_rise boxes i).2 (by rw [hr]; simp)
                  have h2 : rise boxes = [] := by simpa using e
                  rw [h2] at h1
                  cases h1
                · show (((rise boxes).map fun id => (id, nextOf x.boxes id)).map (·.1)).Pairwise (· < ·)
                  rw [List.map_map]
                  have : (rise boxes).map ((fun p : Int × Int => p.1) ∘ fun id => (id, nextOf x.boxes id)) = rise boxes := by
                    conv => rhs; rw [← List.map_id (rise boxes)]
                    exact List.map_congr_left fun _ _ => rfl
                  rw [this]
                  exact rise_sorted boxes
                · obtain ⟨i, hi, rfl⟩ := List.mem_map.1 hp
                  have hin := hasBox_of_rise hhas' hi
                  refine ⟨by show i ∈ ids (turnBoxes (x.clock + 1) (rise boxes) (bumpAll (rise boxes) x.boxes)); rw [hs.ids]; exact hin, h.nextOf_pos hin, ?_⟩
                  have h1 := nextOf_bumpAll h.idsB hi hin
                  have h2 := hs2.next i
                  show nextOf x.boxes i < nextOf (turnBoxes (x.clock + 1) (rise boxes) (bumpAll (rise boxes) x.boxes)) i
                  omega
            · have h1 := h.octets
              have h2 : ¬ x.cfg.maxSize - x.octets < (t.length : Int) := fun e => hfull (.inr e)
              refine ⟨?_, ?_⟩
              · show x.octets + t.length = sizeM (x.mails ++ [_])
                rw [sizeM_append, sizeM_one, h1.1]
              · show x.octets + t.length ≤ x.cfg.maxSize
                omega

end Go.Proofs.YtgkfknbhkonfdaaGreatDoor

namespace Go.Proofs.YtgkfknbhkonfdaaGreatDoor

def idsMl (l : List MailP) : List Int := l.map MailP.id
theorem setMail_ids (id : Int) (f : MailP → MailP) (hf : ∀ m, (f m).id = m.id) : ∀ l, idsMl (setMail id f l) = idsMl l
  | [] => rfl
  | m :: r => by
    unfold setMail
    split
    · simp [idsMl, hf]
    · simp only [idsMl, List.map_cons] at *
      rw [show (setMail id f r).map MailP.id = r.map MailP.id from setMail_ids id f hf r]
theorem setMail_length (id : Int) (f : MailP → MailP) : ∀ l, (setMail id f l).length = l.length
  | [] => rfl
  | m :: r => by
    unfold setMail
    split
    · rfl
    · rw [List.length_cons, List.length_cons, setMail_length id f r]
/-- What lies in the list behind: what lay there, or the first of the Id, turned. -/
theorem mem_setMail {id : Int} {f : MailP → MailP} : ∀ {l : List MailP} {m : MailP}, m ∈ setMail id f l → m ∈ l ∨ ∃ a, l.find? (fun m => decide (m.id = id)) = some a ∧ m = f a
  | [], m, h => by simp [setMail] at h
  | a :: r, m, h => by
    unfold setMail at h
    split at h
    · rename_i he
      rcases List.mem_cons.1 h with rfl | h
      · exact .inr ⟨a, by simp [he], rfl⟩
      · exact .inl (by simp [h])
    · rename_i he
      rcases List.mem_cons.1 h with rfl | h
      · exact .inl (by simp)
      · rcases mem_setMail h with h | ⟨b, hb, rfl⟩
        · exact .inl (by simp [h])
        · exact .inr ⟨b, by rw [List.find?_cons_of_neg (by simpa using he)]; exact hb, rfl⟩
theorem sizeM_setMail (id : Int) (f : MailP → MailP) (hf : ∀ m, (f m).text = m.text) : ∀ l, sizeM (setMail id f l) = sizeM l
  | [] => rfl
  | m :: r => by
    have h1 : ∀ (a : MailP) (l : List MailP), sizeM (a :: l) = a.text.length + sizeM l := fun a l => by simp [sizeM]
    unfold setMail
    split
    · rw [h1, h1, hf]
    · rw [h1, h1, sizeM_setMail id f hf r]

theorem keysP_fit {x : Acc} (h : Fit x) (id : Int) (keys : List Text) (hk : (keysF keys).1.length ≤ 16) : Fit (keysP x id keys).1 := by
  unfold keysP keysK
  split
  · exact h
  · rename_i m hm
    split
    · exact h
    · split
      · exact h
      · split
        · exact h
        · rename_i hend
          have hclock : x.clock + 1 ≤ x.cfg.maxMod := by
            have : ¬ x.cfg.maxMod ≤ x.clock := by simpa [Acc.ends] using hend
            omega
          simp only []
          generalize hids : (if (decide (seenT ∈ (keysF keys).fst) ≠ decide (seenT ∈ m.keys)) then rise (m.members.map (·.1)) else ([] : List Int)) = is
          have hs : BoxStep x.cfg x.boxes (turnBoxes (x.clock + 1) is x.boxes) := boxStep_turn _ _ _ _ h.idsB
          refine ⟨h.cfg, ⟨by have := h.clock.1; show 1 ≤ x.clock + 1; omega, hclock⟩, ⟨h.lastBox.1, by have := h.lastBox.2; show x.lastBox ≤ x.clock + 1; omega⟩, ⟨h.lastId.1, by have := h.lastId.2; show x.lastId ≤ x.clock + 1; omega⟩, ?_, ?_, ?_, hs.ok _ h.box, ?_, ?_, ?_, log_add_ok h.cfg h.log _⟩
          · have := h.nb
            show ((turnBoxes (x.clock + 1) is x.boxes).length : Int) ≤ x.clock + 1
            rw [hs.length]
            omega
          · have := h.nm
            show ((setMail id _ x.mails).length : Int) ≤ x.clock + 1
            rw [setMail_length]
            omega
          · show (ids (turnBoxes (x.clock + 1) is x.boxes)).Nodup
            rw [hs.ids]
            exact h.idsB
          · show (idsMl (setMail id _ x.mails)).Nodup
            rw [setMail_ids]
            · exact h.idsM
            · exact fun _ => rfl
          · intro a ha
            rcases mem_setMail ha with ha | ⟨b, hb, rfl⟩
            · exact (h.mail a ha).step hs
            · have h1 := (h.mail b (List.mem_of_find?_eq_some hb)).step hs
              exact ⟨h1.id, hk, h1.mem⟩
          · have h1 := h.octets
            refine ⟨?_, h1.2⟩
            show x.octets = sizeM (setMail id _ x.mails)
            rw [sizeM_setMail]
            · exact h1.1
            · exact fun _ => rfl

theorem nextOf_append {l : List BoxP} {b : BoxP} {i : Int} (hi : i ∈ ids l) : nextOf (l ++ [b]) i = nextOf l i := by
  unfold nextOf
  rw [List.find?_append]
  obtain ⟨c, hc, rfl⟩ := List.mem_map.1 hi
  have : (l.find? (fun b => decide (b.id = c.id))).isSome = true := by
    rw [List.find?_isSome]
    exact ⟨c, hc, by simp⟩
  obtain ⟨d, hd⟩ := Option.isSome_iff_exists.1 this
  rw [hd]
  rfl

theorem makeP_fit (right : Text → Bool) (hr : ∀ t, right t = true → t.length ≤ 64) {x : Acc} (h : Fit x) (name : Text) (parent : Int) : Fit (makeP right x name parent).1 := by
  unfold makeP
  split
  · exact h
  · rename_i hright
    split
    · exact h
    · split
      · exact h
      · rename_i hend
        have hclock : x.clock + 1 ≤ x.cfg.maxMod := by
          have : ¬ x.cfg.maxMod ≤ x.clock := by simpa [Acc.ends] using hend
          omega
        have hlen : name.length ≤ 64 := hr name (by simpa using hright)
        refine ⟨h.cfg, ⟨by have := h.clock.1; show 1 ≤ x.clock + 1; omega, hclock⟩, ⟨by have := h.lastBox.1; show 1 ≤ x.lastBox + 1; omega, by have := h.lastBox.2; show x.lastBox + 1 ≤ x.clock + 1; omega⟩, ⟨h.lastId.1, by have := h.lastId.2; show x.lastId ≤ x.clock + 1; omega⟩, ?_, ?_, ?_, ?_, h.idsM, ?_, h.octets, log_add_ok h.cfg h.log _⟩
        · have := h.nb
          show ((x.boxes ++ [_]).length : Int) ≤ x.clock + 1
          rw [List.length_append, List.length_singleton]
          omega
        · have := h.nm
          show (x.mails.length : Int) ≤ x.clock + 1
          omega
        · show (ids (x.boxes ++ [_])).Nodup
          unfold ids
          rw [List.map_append, List.nodup_append]
          refine ⟨h.idsB, by simp, fun a ha b hb => ?_⟩
          obtain ⟨c, hc, rfl⟩ := List.mem_map.1 ha
          have h1 := (h.box c hc).id.2
          have h2 : b = x.lastBox + 1 := by simpa using hb
          rw [h2]
          omega
        · intro b hb
          rcases List.mem_append.1 hb with hb | hb
          · have h1 := h.box b hb
            exact ⟨⟨h1.id.1, by have := h1.id.2; show b.id ≤ x.lastBox + 1; omega⟩, h1.next, h1.name⟩
          · rw [List.mem_singleton] at hb
            subst hb
            exact ⟨⟨by have := h.lastBox.1; show 1 ≤ x.lastBox + 1; omega, Int.le_refl _⟩, ⟨Int.le_refl _, by have := h.cfg.uid.1; show (1:Int) ≤ x.cfg.maxUid + 1; omega⟩, hlen⟩
        · intro m hm
          have h1 := h.mail m hm
          refine ⟨h1.id, h1.keys, h1.mem.some_, h1.mem.rising, fun p hp => ?_⟩
          obtain ⟨h2, h3, h4⟩ := h1.mem.each p hp
          refine ⟨?_, h3, ?_⟩
          · show p.1 ∈ ids (x.boxes ++ [_])
            unfold ids
            rw [List.map_append]
            exact List.mem_append_left _ h2
          · show p.2 < nextOf (x.boxes ++ [_]) p.1
            rw [nextOf_append h2]
            exact h4

theorem boxStep_set (c : CfgP) (id : Int) (name : Text) (parent : Int) (hl : name.length ≤ 64) (l : List BoxP) (hn : (ids l).Nodup) : BoxStep c l (setBox id (fun b => { b with name := name, parent := parent }) l) := by
  rw [setBox_map _ _ _ hn]
  refine ⟨ids_map l _ (fun b => by split <;> rfl), fun last h b hb => ?_, nextOf_map l _ (fun b => by split <;> rfl) (fun b _ => by split <;> exact Int.le_refl _)⟩
  obtain ⟨a, ha, rfl⟩ := List.mem_map.1 hb
  have h1 := h a ha
  split
  · exact ⟨h1.id, h1.next, hl⟩
  · exact h1

theorem renameP_fit (right : Text → Bool) (hr : ∀ t, right t = true → t.length ≤ 64) {x : Acc} (h : Fit x) (id : Int) (name : Text) (parent : Int) : Fit (renameP right x id name parent).1 := by
  unfold renameP
  split
  · exact h
  · split
    · exact h
    · rename_i hright
      split
      · exact h
      · split
        · exact h
        · split
          · exact h
          · split
            · exact h
            · rename_i hend
              have hclock : x.clock + 1 ≤ x.cfg.maxMod := by
                have : ¬ x.cfg.maxMod ≤ x.clock := by simpa [Acc.ends] using hend
                omega
              have hlen : name.length ≤ 64 := hr name (by
                have : ¬ right name = false := fun e => hright (.inl e)
                simpa using this)
              have hs1 := boxStep_set x.cfg id name parent hlen x.boxes h.idsB
              have hs2 := boxStep_turn x.cfg (x.clock + 1) [id] _ (show (ids (setBox id (fun b => { b with name := name, parent := parent }) x.boxes)).Nodup by rw [hs1.ids]; exact h.idsB)
              have hs := hs1.trans hs2
              refine ⟨h.cfg, ⟨by have := h.clock.1; show 1 ≤ x.clock + 1; omega, hclock⟩, ⟨h.lastBox.1, by have := h.lastBox.2; show x.lastBox ≤ x.clock + 1; omega⟩, ⟨h.lastId.1, by have := h.lastId.2; show x.lastId ≤ x.clock + 1; omega⟩, ?_, ?_, ?_, hs.ok _ h.box, h.idsM, fun m hm => (h.mail m hm).step hs, h.octets, log_add_ok h.cfg h.log _⟩
              · have := h.nb
                show ((turnBoxes (x.clock + 1) [id] _).length : Int) ≤ x.clock + 1
                rw [hs.length]
                omega
              · have := h.nm
                show (x.mails.length : Int) ≤ x.clock + 1
                omega
              · show (ids (turnBoxes (x.clock + 1) [id] _)).Nodup
                rw [hs.ids]
                exact h.idsB

end Go.Proofs.YtgkfknbhkonfdaaGreatDoor

namespace Go.Proofs.YtgkfknbhkonfdaaGreatDoor

theorem place_pos {α : Type} (p : α → Bool) : ∀ l : List α, l.any p = true → 0 ≤ place p l
  | [], h => by simp at h
  | x :: r, h => by
    unfold place
    split
    · exact Int.le_refl _
    · rename_i hx
      have h1 : r.any p = true := by simpa [hx] using h
      have := place_pos p r h1
      split <;> omega
theorem place_neg {α : Type} (p : α → Bool) : ∀ l : List α, l.any p = false → place p l = -1
  | [], _ => rfl
  | x :: r, h => by
    have h1 : p x = false ∧ r.any p = false := by simpa using h
    unfold place
    rw [place_neg p r h1.2]
    simp [h1.1]
theorem eraseIdx_place {α : Type} (p : α → Bool) : ∀ l : List α, l.any p = true → l.eraseIdx (place p l).toNat = l.eraseP p
  | [], h => by simp at h
  | x :: r, h => by
    unfold place
    by_cases hx : p x = true
    · simp [hx]
    · have h1 : r.any p = true := by simpa [hx] using h
      have h2 := place_pos p r h1
      rw [if_neg hx, if_neg (by omega), List.eraseP_cons_of_neg (by simpa using hx), ← eraseIdx_place p r h1, show (place p r + 1).toNat = (place p r).toNat + 1 from by omega]
      rfl

theorem nextOf_eraseP {id i : Int} (hi : i ≠ id) : ∀ l : List BoxP, nextOf (l.eraseP fun b => decide (b.id = id)) i = nextOf l i
  | [] => rfl
  | b :: r => by
    by_cases hb : b.id = id
    · have h1 : ¬ b.id = i := fun e => hi (e.symm.trans hb)
      rw [List.eraseP_cons_of_pos (by simpa using hb)]
      unfold nextOf
      rw [List.find?_cons_of_neg (by simpa using h1)]
    · rw [List.eraseP_cons_of_neg (by simpa using hb)]
      have ih := nextOf_eraseP hi r
      unfold nextOf at ih ⊢
      by_cases h1 : b.id = i
      · rw [List.find?_cons_of_pos (by simpa using h1), List.find?_cons_of_pos (by simpa using h1)]
      · rw [List.find?_cons_of_neg (by simpa using h1), List.find?_cons_of_neg (by simpa using h1)]
        exact ih
theorem ids_eraseP {id i : Int} (hi : i ≠ id) : ∀ l : List BoxP, i ∈ ids l → i ∈ ids (l.eraseP fun b => decide (b.id = id))
  | [], h => h
  | b :: r, h => by
    have h' : i = b.id ∨ i ∈ ids r := by simpa [ids] using h
    by_cases hb : b.id = id
    · rw [List.eraseP_cons_of_pos (by simpa using hb)]
      rcases h' with h' | h'
      · exact absurd (h'.trans hb) hi
      · exact h'
    · rw [List.eraseP_cons_of_neg (by simpa using hb)]
      rcases h' with h' | h'
      · simp [ids, h']
      · have := ids_eraseP hi r h'
        simp only [ids, List.map_cons, List.mem_cons] at this ⊢
        exact .inr this

theorem dropP_fit {x : Acc} (h : Fit x) (id : Int) : Fit (dropP x id).1 := by
  unfold dropP
  split
  · exact h
  · rename_i hhas
    split
    · exact h
    · split
      · exact h
      · rename_i hbusy
        split
        · exact h
        · rename_i hend
          have hclock : x.clock + 1 ≤ x.cfg.maxMod := by
            have : ¬ x.cfg.maxMod ≤ x.clock := by simpa [Acc.ends] using hend
            omega
          have hany : x.boxes.any (fun b => decide (b.id = id)) = true := by
            have : ¬ hasBox x.boxes id = false := hhas
            simpa [hasBox] using this
          have he : x.boxes.eraseIdx (boxOf id x.boxes).toNat = x.boxes.eraseP fun b => decide (b.id = id) := eraseIdx_place _ _ hany
          have hno : ∀ m ∈ x.mails, ∀ p ∈ m.members, p.1 ≠ id := by
            intro m hm p hp e
            apply hbusy
            rw [Bool.or_eq_true]
            exact .inr (List.any_eq_true.2 ⟨m, hm, List.any_eq_true.2 ⟨p, hp, by simpa using e⟩⟩)
          have hsub := List.eraseP_sublist (l := x.boxes) (p := fun b => decide (b.id = id))
          simp only [he]
          refine ⟨h.cfg, ⟨by have := h.clock.1; show 1 ≤ x.clock + 1; omega, hclock⟩, ⟨h.lastBox.1, by have := h.lastBox.2; show x.lastBox ≤ x.clock + 1; omega⟩, ⟨h.lastId.1, by have := h.lastId.2; show x.lastId ≤ x.clock + 1; omega⟩, ?_, ?_, ?_, fun b hb => h.box b (hsub.subset hb), h.idsM, ?_, h.octets, log_add_ok h.cfg h.log _⟩
          · have := h.nb
            have := hsub.length_le
            show ((x.boxes.eraseP _).length : Int) ≤ x.clock + 1
            omega
          · have := h.nm
            show (x.mails.length : Int) ≤ x.clock + 1
            omega
          · exact (hsub.map _).nodup h.idsB
          · intro m hm
            have h1 := h.mail m hm
            refine ⟨h1.id, h1.keys, h1.mem.some_, h1.mem.rising, fun p hp => ?_⟩
            obtain ⟨h2, h3, h4⟩ := h1.mem.each p hp
            have hne := hno m hm p hp
            exact ⟨ids_eraseP hne _ h2, h3, by show p.2 < nextOf (x.boxes.eraseP _) p.1; rw [nextOf_eraseP hne]; exact h4⟩

theorem sizeM_eraseP (p : MailP → Bool) : ∀ (l : List MailP) (m : MailP), l.find? p = some m → sizeM (l.eraseP p) = sizeM l - m.text.length
  | [], m, h => by simp at h
  | a :: r, m, h => by
    have h1 : ∀ (a : MailP) (l : List MailP), sizeM (a :: l) = a.text.length + sizeM l := fun a l => by simp [sizeM]
    by_cases ha : p a = true
    · rw [List.find?_cons_of_pos ha] at h
      obtain rfl := Option.some.inj h
      rw [List.eraseP_cons_of_pos ha, h1]
      omega
    · rw [List.find?_cons_of_neg ha] at h
      rw [List.eraseP_cons_of_neg ha, h1, h1, sizeM_eraseP p r m h]
      omega

theorem destroyP_fit {x : Acc} (h : Fit x) (id : Int) : Fit (destroyP x id).1 := by
  unfold destroyP
  split
  · exact h
  · rename_i m hm
    split
    · exact h
    · rename_i hend
      have hclock : x.clock + 1 ≤ x.cfg.maxMod := by
        have : ¬ x.cfg.maxMod ≤ x.clock := by simpa [Acc.ends] using hend
        omega
      have hany : x.mails.any (fun m => decide (m.id = id)) = true := List.any_eq_true.2 ⟨m, List.mem_of_find?_eq_some hm, List.find?_some (p := fun m : MailP => decide (m.id = id)) hm⟩
      have he : x.mails.eraseIdx (mailOf id x.mails).toNat = x.mails.eraseP fun m => decide (m.id = id) := eraseIdx_place _ _ hany
      have hsub := List.eraseP_sublist (l := x.mails) (p := fun m => decide (m.id = id))
      simp only [he]
      have hs := boxStep_turn x.cfg (x.clock + 1) (rise (m.members.map (·.1))) x.boxes h.idsB
      refine ⟨h.cfg, ⟨by have := h.clock.1; show 1 ≤ x.clock + 1; omega, hclock⟩, ⟨h.lastBox.1, by have := h.lastBox.2; show x.lastBox ≤ x.clock + 1; omega⟩, ⟨h.lastId.1, by have := h.lastId.2; show x.lastId ≤ x.clock + 1; omega⟩, ?_, ?_, ?_, hs.ok _ h.box, ?_, fun a ha => (h.mail a (hsub.subset ha)).step hs, ?_, log_add_ok h.cfg h.log _⟩
      · have := h.nb
        show ((turnBoxes (x.clock + 1) _ x.boxes).length : Int) ≤ x.clock + 1
        rw [hs.length]
        omega
      · have := h.nm
        have := hsub.length_le
        show ((x.mails.eraseP _).length : Int) ≤ x.clock + 1
        omega
      · show (ids (turnBoxes (x.clock + 1) _ x.boxes)).Nodup
        rw [hs.ids]
        exact h.idsB
      · exact (hsub.map _).nodup h.idsM
      · have h1 := h.octets
        have h2 := sizeM_eraseP (fun m => decide (m.id = id)) x.mails m hm
        refine ⟨?_, ?_⟩
        · show x.octets - m.text.length = sizeM (x.mails.eraseP _)
          rw [h2, h1.1]
        · show x.octets - m.text.length ≤ x.cfg.maxSize
          omega

theorem mem_insM (p q : Int × Int) : ∀ l, q ∈ insM p l ↔ q = p ∨ q ∈ l
  | [] => by simp [insM]
  | z :: r => by
    unfold insM
    split
    · simp
    · simp only [List.mem_cons, mem_insM p q r]
      constructor
      · rintro (h | h | h)
        · exact .inr (.inl h)
        · exact .inl h
        · exact .inr (.inr h)
      · rintro (h | h | h)
        · exact .inr (.inl h)
        · exact .inl h
        · exact .inr (.inr h)
theorem insM_sorted (p : Int × Int) : ∀ l : List (Int × Int), l.Pairwise (fun a b => a.1 < b.1) → (∀ q ∈ l, q.1 ≠ p.1) → (insM p l).Pairwise (fun a b => a.1 < b.1)
  | [], _, _ => by simp [insM]
  | z :: r, h, hn => by
    obtain ⟨h1, h2⟩ := List.pairwise_cons.1 h
    unfold insM
    split
    · rename_i hx
      refine List.pairwise_cons.2 ⟨fun y hy => ?_, h⟩
      rcases List.mem_cons.1 hy with rfl | hy
      · exact hx
      · have := h1 y hy
        omega
    · rename_i hx
      have hz := hn z (by simp)
      refine List.pairwise_cons.2 ⟨fun y hy => ?_, insM_sorted p r h2 fun q hq => hn q (by simp [hq])⟩
      rcases (mem_insM p y r).1 hy with rfl | hy
      · omega
      · exact h1 y hy
theorem sortM_from : ∀ (l acc : List (Int × Int)), acc.Pairwise (fun a b => a.1 < b.1) → (l.map (·.1)).Nodup → (∀ q ∈ acc, q.1 ∉ l.map (·.1)) →
    (l.foldl (fun acc p => insM p acc) acc).Pairwise (fun a b => a.1 < b.1) ∧ ∀ q, q ∈ l.foldl (fun acc p => insM p acc) acc ↔ q ∈ acc ∨ q ∈ l
  | [], acc, h, _, _ => by simp [h]
  | p :: r, acc, h, hn, hd => by
    have hn' : p.1 ∉ r.map (·.1) ∧ (r.map (·.1)).Nodup := by
      rw [List.map_cons, List.nodup_cons] at hn
      exact hn
    have hd1 : ∀ q ∈ acc, q.1 ≠ p.1 := fun q hq e => hd q hq (by rw [List.map_cons, e]; simp)
    obtain ⟨h1, h2⟩ := sortM_from r (insM p acc) (insM_sorted p acc h hd1) hn'.2 (fun q hq => by
      rcases (mem_insM p q acc).1 hq with rfl | hq
      · exact hn'.1
      · exact fun e => hd q hq (by rw [List.map_cons]; exact List.mem_cons_of_mem _ e))
    refine ⟨h1, fun q => ?_⟩
    rw [List.foldl_cons, h2, mem_insM, List.mem_cons]
    constructor
    · rintro ((h | h) | h)
      · exact .inr (.inl h)
      · exact .inl h
      · exact .inr (.inr h)
    · rintro (h | h | h)
      · exact .inl (.inr h)
      · exact .inl (.inl h)
      · exact .inr h
theorem sortM_ok {l : List (Int × Int)} (h : (l.map (·.1)).Nodup) : (sortM l).Pairwise (fun a b => a.1 < b.1) ∧ ∀ q, q ∈ sortM l ↔ q ∈ l := by
  obtain ⟨h1, h2⟩ := sortM_from l [] List.Pairwise.nil h (by simp)
  exact ⟨h1, fun q => by simpa [sortM] using h2 q⟩

/-- An email's members behind a Place. -/
def placedP (bs : List BoxP) (m : List (Int × Int)) (boxes : List Int) : List (Int × Int) :=
  sortM ((m.filter fun p => !decide (p.1 ∈ (m.map (·.1)).filter fun b => !decide (b ∈ rise boxes))) ++ ((rise boxes).filter fun b => !decide (b ∈ m.map (·.1))).map fun id => (id, nextOf bs id))
theorem placed_nodup {bs : List BoxP} {m : List (Int × Int)} {boxes : List Int} (hm : MemOk bs m) :
    (((m.filter fun p => !decide (p.1 ∈ (m.map (·.1)).filter fun b => !decide (b ∈ rise boxes))) ++ ((rise boxes).filter fun b => !decide (b ∈ m.map (·.1))).map fun id => (id, nextOf bs id)).map (·.1)).Nodup := by
  rw [List.map_append, List.nodup_append]
  refine ⟨((List.filter_sublist (l := m)).map (·.1)).nodup (nodup_of_rising hm.rising), ?_, fun a ha b hb => ?_⟩
  · rw [List.map_map]
    have : (((rise boxes).filter fun b => !decide (b ∈ m.map (·.1))).map ((fun p : Int × Int => p.1) ∘ fun id => (id, nextOf bs id))) = (rise boxes).filter fun b => !decide (b ∈ m.map (·.1)) := by
      conv => rhs; rw [← List.map_id ((rise boxes).filter _)]
      exact List.map_congr_left fun _ _ => rfl
    rw [this]
    exact (List.filter_sublist (l := rise boxes)).nodup (rise_nodup boxes)
  · rintro rfl
    obtain ⟨p, hp, rfl⟩ := List.mem_map.1 ha
    obtain ⟨q, hq, hqe⟩ := List.mem_map.1 hb
    obtain ⟨i, hi, rfl⟩ := List.mem_map.1 hq
    have h1 : p.1 ∈ m.map (·.1) := List.mem_map_of_mem (List.mem_filter.1 hp).1
    have h2 := (List.mem_filter.1 hi).2
    have h3 : i = p.1 := hqe
    rw [h3] at h2
    simp only [Bool.not_eq_true', decide_eq_false_iff_not] at h2
    exact h2 h1
theorem placed_ok {c : CfgP} {bs bs' : List BoxP} {m : List (Int × Int)} {boxes : List Int} (hm : MemOk bs m) (hne : boxes ≠ []) (hin : ∀ i ∈ rise boxes, i ∈ ids bs) (hs : BoxStep c bs bs')
    (hpos : ∀ i ∈ ids bs, 1 ≤ nextOf bs i) (hb : ∀ i ∈ rise boxes, i ∉ m.map (·.1) → nextOf bs i < nextOf bs' i) : MemOk bs' (placedP bs m boxes) := by
  have hnd := placed_nodup (bs := bs) (boxes := boxes) hm
  obtain ⟨h1, h2⟩ := sortM_ok hnd
  refine ⟨?_, ?_, fun p hp => ?_⟩
  · obtain ⟨i, hi⟩ : ∃ i, i ∈ boxes := by
      cases boxes with
      | nil => exact absurd rfl hne
      | cons i r => exact ⟨i, by simp⟩
    have hr := (mem_rise boxes i).2 hi
    intro e
    by_cases hw : i ∈ m.map (·.1)
    · obtain ⟨p, hp, rfl⟩ := List.mem_map.1 hw
      have h3 : p ∈ placedP bs m boxes := (h2 p).2 (List.mem_append_left _ (List.mem_filter.2 ⟨hp, by simp [hr]⟩))
      rw [e] at h3
      cases h3
    · have h3 : (i, nextOf bs i) ∈ placedP bs m boxes := (h2 _).2 (List.mem_append_right _ (List.mem_map.2 ⟨i, List.mem_filter.2 ⟨hr, by simpa using hw⟩, rfl⟩))
      rw [e] at h3
      cases h3
  · rw [List.pairwise_map]
    exact h1
  · rcases List.mem_append.1 ((h2 p).1 hp) with h3 | h3
    · exact (hm.step hs).each p (List.mem_filter.1 h3).1
    · obtain ⟨i, hi, rfl⟩ := List.mem_map.1 h3
      have h4 := List.mem_filter.1 hi
      have h5 : i ∉ m.map (·.1) := by simpa using h4.2
      exact ⟨by rw [hs.ids]; exact hin i h4.1, hpos i (hin i h4.1), hb i h4.1 h5⟩

theorem placeP_fit {x : Acc} (h : Fit x) (id : Int) (boxes : List Int) : Fit (placeP x id boxes).1 := by
  unfold placeP
  split
  · exact h
  · rename_i m hm
    split
    · exact h
    · rename_i hne
      split
      · exact h
      · rename_i hhas
        simp only []
        split
        · exact h
        · split
          · exact h
          · rename_i hend
            simp only [Bool.or_eq_true, not_or, Bool.not_eq_true] at hend
            obtain ⟨hend1, hend2⟩ := hend
            have hclock : x.clock + 1 ≤ x.cfg.maxMod := by
              have : ¬ x.cfg.maxMod ≤ x.clock := by simpa [Acc.ends] using hend1
              omega
            have hhas' : (rise boxes).any (fun id => !hasBox x.boxes id) = false := by simpa using hhas
            have hmm := List.mem_of_find?_eq_some hm
            have hfn : ((rise boxes).filter fun b => !decide (b ∈ m.members.map (·.1))).Nodup := (List.filter_sublist (l := rise boxes)).nodup (rise_nodup boxes)
            have hspent : ∀ i ∈ (rise boxes).filter (fun b => !decide (b ∈ m.members.map (·.1))), nextOf x.boxes i ≤ x.cfg.maxUid := by
              intro i hi
              have h1 : ¬ x.spent i = true := fun h2 => by
                have h3 := List.any_eq_true.2 ⟨i, hi, h2⟩
                rw [hend2] at h3
                cases h3
              have h4 : ¬ x.cfg.maxUid < nextOf x.boxes i := by simpa [Acc.spent] using h1
              omega
            rw [numbers_eq _ x.boxes h.idsB hfn]
            have hs1 : BoxStep x.cfg x.boxes (bumpAll ((rise boxes).filter fun b => !decide (b ∈ m.members.map (·.1))) x.boxes) := boxStep_bump _ _ _ fun b hb hi => by
              have := hspent _ hi
              rwa [nextOf_mem h.idsB hb] at this
            generalize hrl : rise ((m.members.map (·.1)).filter (fun b => !decide (b ∈ rise boxes)) ++ (rise boxes).filter (fun b => !decide (b ∈ m.members.map (·.1)))) = turned
            have hs2 : BoxStep x.cfg (bumpAll ((rise boxes).filter fun b => !decide (b ∈ m.members.map (·.1))) x.boxes) (turnBoxes (x.clock + 1) turned (bumpAll ((rise boxes).filter fun b => !decide (b ∈ m.members.map (·.1))) x.boxes)) := boxStep_turn _ _ _ _ (by rw [ids_bumpAll]; exact h.idsB)
            have hs := hs1.trans hs2
            simp only []
            refine ⟨h.cfg, ⟨by have := h.clock.1; show 1 ≤ x.clock + 1; omega, hclock⟩, ⟨h.lastBox.1, by have := h.lastBox.2; show x.lastBox ≤ x.clock + 1; omega⟩, ⟨h.lastId.1, by have := h.lastId.2; show x.lastId ≤ x.clock + 1; omega⟩, ?_, ?_, ?_, hs.ok _ h.box, ?_, ?_, ?_, log_add_ok h.cfg h.log _⟩
            · have := h.nb
              show ((turnBoxes (x.clock + 1) turned _).length : Int) ≤ x.clock + 1
              rw [hs.length]
              omega
            · have := h.nm
              show ((setMail id _ x.mails).length : Int) ≤ x.clock + 1
              rw [setMail_length]
              omega
            · show (ids (turnBoxes (x.clock + 1) turned _)).Nodup
              rw [hs.ids]
              exact h.idsB
            · show (idsMl (setMail id _ x.mails)).Nodup
              rw [setMail_ids]
              · exact h.idsM
              · exact fun _ => rfl
            · intro a ha
              rcases mem_setMail ha with ha | ⟨b, hb, rfl⟩
              · exact (h.mail a ha).step hs
              · have hbm : b = m := by
                  rw [hm] at hb
                  exact (Option.some.inj hb).symm
                subst hbm
                have h1 := h.mail b hmm
                refine ⟨h1.id, h1.keys, ?_⟩
                have h2 := placed_ok (c := x.cfg) h1.mem hne (fun i hi => hasBox_of_rise hhas' hi) hs (fun i hi => h.nextOf_pos hi) (fun i hi hw => by
                  have h3 := nextOf_bumpAll (is := (rise boxes).filter fun b_1 => !decide (b_1 ∈ b.members.map (·.1))) h.idsB (List.mem_filter.2 ⟨hi, by simpa using hw⟩) (hasBox_of_rise hhas' hi)
                  have h4 := hs2.next i
                  omega)
                exact h2
            · have h1 := h.octets
              refine ⟨?_, h1.2⟩
              show x.octets = sizeM (setMail id _ x.mails)
              rw [sizeM_setMail]
              · exact h1.1
              · exact fun _ => rfl

end Go.Proofs.YtgkfknbhkonfdaaGreatDoor

namespace Go.Proofs.YtgkfknbhkonfdaaGreatDoor

theorem rising_le : ∀ (l : List Int) (a n : Int), l.Pairwise (· < ·) → (∀ y ∈ l, a ≤ y ∧ y ≤ n) → a ≤ n + 1 → (l.length : Int) ≤ n - a + 1
  | [], a, n, _, _, h => by simp; omega
  | y :: r, a, n, hp, hb, h => by
    obtain ⟨h1, h2⟩ := List.pairwise_cons.1 hp
    have h3 := hb y (by simp)
    have h4 := rising_le r (y + 1) n h2 (fun z hz => ⟨by have := h1 z hz; omega, (hb z (List.mem_cons_of_mem _ hz)).2⟩) (by omega)
    rw [List.length_cons]
    omega
theorem Fit.nmem {x : Acc} (h : Fit x) {m : MailP} (hm : m ∈ x.mails) : m.members.length ≤ 4294967296 := by
  have h2 := h.clock
  have h3 := h.cfg.mod
  have h4 := h.lastBox
  have hmem := (h.mail m hm).mem
  have h5 := rising_le (m.members.map (·.1)) 1 x.lastBox hmem.rising (fun y hy => by
    obtain ⟨p, hp, rfl⟩ := List.mem_map.1 hy
    obtain ⟨b, hb, e⟩ := List.mem_map.1 (hmem.each p hp).1
    have := (h.box b hb).id
    rw [e] at this
    exact this) (by omega)
  rw [List.length_map] at h5
  omega
theorem Fit.memIn {x : Acc} (h : Fit x) {m : MailP} (hm : m ∈ x.mails) : ∀ i ∈ m.members.map (·.1), i ∈ ids x.boxes := by
  intro i hi
  obtain ⟨p, hp, rfl⟩ := List.mem_map.1 hi
  exact ((h.mail m hm).mem.each p hp).1

end Go.Proofs.YtgkfknbhkonfdaaGreatDoor

namespace Go.Proofs.YtgkfknbhkonfdaaGreatDoor

def wideP : CfgP := ⟨[117], [112], 1000, 100, 1048576, 1073741824, 1073741824, 10000, 200⟩
theorem wideP_ok : CfgOk wideP := by constructor <;> decide
theorem rise_one (i : Int) : rise [i] = [i] := rfl
theorem headF_a (name : List UInt8) : headF [97] name = [] := by
  have h : (splitF [97]).1 = [] := by decide
  simp [headF, h, firstF]

/-- An Append into the one mailbox there is. -/
theorem appendP_one (head : Text → Text → Text) (x : Acc) (b : BoxP) (hb : x.boxes = [b]) (h1 : b.id = 1) (keys : List Text) (hk : (keysF keys).2 = 0) (at_ : Int) (ha : 0 ≤ at_) (ha2 : at_ ≤ 253402300799) (t : Text)
    (hm : (x.mails.length : Int) < x.cfg.maxMails) (ho : x.octets + t.length ≤ x.cfg.maxSize) (hc : x.clock < x.cfg.maxMod) (hu : b.next ≤ x.cfg.maxUid) :
    appendP head x [1] keys at_ t = ({ x with clock := x.clock + 1, lastId := x.lastId + 1, boxes := [{ b with next := b.next + 1, mod := x.clock + 1 }], octets := x.octets + t.length, mails := x.mails ++ [⟨x.lastId + 1, if threadP head x t = 0 then x.lastId + 1 else threadP head x t, t, at_, (keysF keys).1, [(1, b.next)], x.clock + 1, x.clock + 1⟩], log := x.log.add [⟨x.clock + 1, 1, 1, 2⟩, ⟨x.clock + 1, 2, x.lastId + 1, 1⟩, ⟨x.clock + 1, 3, if threadP head x t = 0 then x.lastId + 1 else threadP head x t, if threadP head x t = 0 then 1 else 2⟩] }, x.lastId + 1, 0) := by
  have hhas : ((rise [1]).any fun id => !hasBox x.boxes id) = false := by
    rw [rise_one, hb]
    simp [hasBox, h1]
  have hend : (x.ends || (rise [1]).any x.spent) = false := by
    rw [rise_one]
    simp [Acc.ends, Acc.spent, hb, nextOf, h1]
    omega
  have hn : numbers [1] x.boxes = ([{ b with next := b.next + 1 }], [(1, b.next)]) := by
    rw [hb]
    simp [numbers, bump, setBox, nextOf, h1]
  unfold appendP appendK
  rw [if_neg (by simp; omega), if_neg (by omega), if_neg (by rw [hhas]; decide), if_neg (by omega), if_neg (by rw [hend]; decide)]
  simp only [rise_one, hn, turnBoxes, turnEnts, List.foldl_cons, List.foldl_nil, setBox, h1, if_true, List.map_cons, List.map_nil, List.cons_append, List.nil_append]

/-- Refused: no number, no clock left. -/
theorem appendP_end (head : Text → Text → Text) (x : Acc) (b : BoxP) (hb : x.boxes = [b]) (h1 : b.id = 1) (keys : List Text) (hk : (keysF keys).2 = 0) (at_ : Int) (ha : 0 ≤ at_) (ha2 : at_ ≤ 253402300799) (t : Text)
    (hm : (x.mails.length : Int) < x.cfg.maxMails) (ho : x.octets + t.length ≤ x.cfg.maxSize) (hc : x.cfg.maxMod ≤ x.clock ∨ x.cfg.maxUid < b.next) : appendP head x [1] keys at_ t = (x, 0, 11) := by
  have hhas : ((rise [1]).any fun id => !hasBox x.boxes id) = false := by
    rw [rise_one, hb]
    simp [hasBox, h1]
  have hend : (x.ends || (rise [1]).any x.spent) = true := by
    rw [rise_one]
    simp [Acc.ends, Acc.spent, hb, nextOf, h1]
    omega
  unfold appendP appendK
  rw [if_neg (by simp; omega), if_neg (by omega), if_neg (by rw [hhas]; decide), if_neg (by omega), if_pos hend]
/-- Refused: too many, too long. -/
theorem appendP_full (head : Text → Text → Text) (x : Acc) (b : BoxP) (hb : x.boxes = [b]) (h1 : b.id = 1) (keys : List Text) (hk : (keysF keys).2 = 0) (at_ : Int) (ha : 0 ≤ at_) (ha2 : at_ ≤ 253402300799) (t : Text)
    (hm : x.cfg.maxMails ≤ (x.mails.length : Int) ∨ x.cfg.maxSize < x.octets + t.length) : appendP head x [1] keys at_ t = (x, 0, 8) := by
  have hhas : ((rise [1]).any fun id => !hasBox x.boxes id) = false := by
    rw [rise_one, hb]
    simp [hasBox, h1]
  unfold appendP appendK
  rw [if_neg (by simp; omega), if_neg (by omega), if_neg (by rw [hhas]; decide), if_pos (by omega)]

end Go.Proofs.YtgkfknbhkonfdaaGreatDoor

namespace Go.Proofs.YtgkfknbhkonfdaaGreatDoor
open Go.RowKit Go.Sort
attribute [local go_sem ↓] Go.wp_at_zero Go.wp_at_succ

abbrev encI : Int → Value := Value.int .i64

/-! ### The plain law -/
def sortI (l : List Int) : List Int := l.mergeSort fun x y => decide (x ≤ y)
theorem sortI_length (l : List Int) : (sortI l).length = l.length := by simp [sortI]
theorem sortI_sorted (l : List Int) : (sortI l).Pairwise (· ≤ ·) := by
  have := List.pairwise_mergeSort (le := fun x y : Int => decide (x ≤ y)) (by intro a b c; simp; exact Int.le_trans) (by intro a b; simp; exact Int.le_total a b) l
  unfold sortI
  simpa using this
theorem mem_sortI (l : List Int) (x : Int) : x ∈ sortI l ↔ x ∈ l := by simp [sortI]
theorem sortedI_at {d : List Int} (h : d.Pairwise (· ≤ ·)) (i j : Nat) (hij : i ≤ j) (hj : j < d.length) : d.toArray[i]! ≤ d.toArray[j]! := by
  rw [getElem!_pos _ i (by simp; omega), getElem!_pos _ j (by simpa using hj)]
  simp only [List.getElem_toArray]
  rcases Nat.lt_or_ge i j with h1 | h1
  · exact List.pairwise_iff_getElem.1 h i j (by omega) hj h1
  · obtain rfl : i = j := by omega
    exact Int.le_refl _
theorem compactI_ok {d : List Int} (h : d.Pairwise (· ≤ ·)) : ∀ m, m ≤ d.length → (Lib.compactUpTo d.toArray m).Pairwise (· < ·) ∧ ∀ x, x ∈ Lib.compactUpTo d.toArray m ↔ ∃ j, j < m ∧ d.toArray[j]! = x
  | 0, _ => by simp [Lib.compactUpTo]
  | m + 1, hm => by
    obtain ⟨h1, h2⟩ := compactI_ok h m (by omega)
    rw [Lib.compactUpTo_succ]
    by_cases hk : Lib.keeps d.toArray m = true
    · rw [if_pos hk]
      refine ⟨?_, fun x => ?_⟩
      · rw [List.pairwise_append]
        refine ⟨h1, by simp, fun a ha b hb => ?_⟩
        simp only [List.mem_singleton] at hb
        subst hb
        obtain ⟨j, hj, rfl⟩ := (h2 a).1 ha
        have hne : d.toArray[m]! ≠ d.toArray[m - 1]! := by
          simp only [Lib.keeps, decide_eq_true_eq] at hk
          rcases hk with hk | hk
          · omega
          · exact hk
        have a1 := sortedI_at h j (m - 1) (by omega) (by omega)
        have a2 := sortedI_at h (m - 1) m (by omega) (by omega)
        omega
      · rw [List.mem_append, h2, List.mem_singleton]
        constructor
        · rintro (⟨j, hj, he⟩ | he)
          · exact ⟨j, by omega, he⟩
          · exact ⟨m, by omega, he.symm⟩
        · rintro ⟨j, hj, he⟩
          by_cases hjm : j = m
          · subst hjm
            exact .inr he.symm
          · exact .inl ⟨j, by omega, he⟩
    · rw [if_neg hk, List.append_nil]
      refine ⟨h1, fun x => ?_⟩
      rw [h2]
      have hk2 : ¬ (m = 0 ∨ d.toArray[m]! ≠ d.toArray[m - 1]!) := by simpa [Lib.keeps] using hk
      constructor
      · rintro ⟨j, hj, he⟩
        exact ⟨j, by omega, he⟩
      · rintro ⟨j, hj, he⟩
        by_cases hjm : j = m
        · subst hjm
          refine ⟨j - 1, by omega, ?_⟩
          rw [← he]
          refine Decidable.byContradiction fun hne => hk2 (.inr fun e => hne e.symm)
        · exact ⟨j, by omega, he⟩
/-- What a sort made compact is: rising numbers. -/
theorem compact_sortI (l : List Int) : Lib.compact (sortI l) = rise l := by
  obtain ⟨h1, h2⟩ := compactI_ok (sortI_sorted l) (sortI l).length (Nat.le_refl _)
  refine rising_unique h1 (rise_sorted l) fun x => ?_
  rw [mem_rise, ← mem_sortI l x]
  unfold Lib.compact
  rw [h2]
  constructor
  · rintro ⟨j, hj, rfl⟩
    rw [getElem!_pos _ j (by simpa using hj)]
    simp
  · intro hx
    obtain ⟨j, hj, he⟩ := List.getElem_of_mem hx
    refine ⟨j, hj, ?_⟩
    rw [getElem!_pos _ j (by simpa using hj)]
    simpa using he

/-! ### In memory -/
section
variable {w w' : World} {e : TypeId} {b off n cap : Nat} {h : Option Nat} {xs : List Value}

theorem grow_chgI (w : World) (q : Nat) (d : Array Int) (b off : Nat) (os : Array Obj) : Chg [b] w (grow (putRow encI (Sort.ahead w q) b off d) os) := by
  refine ⟨rfl, rfl, rfl, by simp, fun k hk hne => ?_⟩
  rw [heap_grow_old _ _ (by simpa using hk)]
  have : b ≠ k := fun e => hne (by simp [e])
  simp [putRow, mapBlock, Sort.ahead, Array.getElem?_modify, this]
theorem grow_blkI {cur : Array Value} (hB : Blk w b e cur) (q : Nat) (d : Array Int) (os : Array Obj) : Blk (grow (putRow encI (Sort.ahead w q) b off d) os) b e (putCells encI off d cur) := by
  have hlt := hB.lt
  unfold Blk at hB ⊢
  rw [heap_grow_old _ _ (by simpa using hlt)]
  simp [putRow, mapBlock, Sort.ahead, Array.getElem?_modify, hB]
  rfl
theorem putCells_atI (cur : Array Value) (d : Array Int) (h : off + d.size ≤ cur.size) : ((putCells encI off d cur).toList.drop off).take d.size = d.toList.map encI := by
  apply List.ext_getElem?
  intro k
  rw [List.getElem?_take]
  by_cases hk : k < d.size
  · rw [if_pos hk, List.getElem?_drop, List.getElem?_map]
    simp only [putCells, Array.getElem?_toList, Array.getElem?_mapIdx]
    rw [Array.getElem?_eq_getElem (show off + k < cur.size by omega), Option.map_some, if_pos ⟨by omega, by omega⟩, Nat.add_sub_cancel_left]
    simp [hk]
  · rw [if_neg hk, List.getElem?_eq_none]
    simp
    omega
theorem Sl.putRowI (hs : Sl w e 1 (.slice (some ⟨b, off, none⟩) n cap) h n xs) (q : Nat) (d : Array Int) (hd : d.size = n) (os : Array Obj) :
    Sl (grow (Sort.putRow encI (Sort.ahead w q) b off d) os) e 1 (.slice (some ⟨b, off, none⟩) n cap) h n (d.toList.map encI) := by
  refine ⟨by simp [hd], ?_⟩
  rcases hs.2 with ⟨_, hv, _⟩ | ⟨b', off', cap', cur, hh, hv, hB, hnc, hcm, hcs, ht⟩
  · cases hv
  · simp only [Value.slice.injEq, Option.some.injEq, Addr.mk.injEq, and_true, true_and] at hv
    obtain ⟨⟨rfl, rfl⟩, rfl⟩ := hv
    refine .inr ⟨b, off, cap, _, hh, rfl, grow_blkI hB q d os, hnc, hcm, by simpa [putCells] using hcs, ?_⟩
    rw [Nat.mul_one, ← hd]
    exact putCells_atI cur d (by omega)
theorem Sl.holdsI {ss : List Int} (hs : Sl w e 1 (.slice (some ⟨b, off, none⟩) n cap) h n (ss.map encI)) : Holds encI w b off ss.toArray := by
  have hn : ss.length = n := by have := hs.1; simpa using this
  intro j hj
  have hj' : j < ss.length := by simpa using hj
  obtain ⟨b', off', cap', hh, hv, _, _, _, hat⟩ := hs.at_ (by omega)
  simp only [Value.slice.injEq, Option.some.injEq, Addr.mk.injEq, and_true, true_and] at hv
  obtain ⟨⟨rfl, rfl⟩, rfl⟩ := hv
  obtain ⟨h1, h2⟩ := hat j (by omega)
  refine ⟨?_, h2⟩
  rw [h1]
  simp [hj']
end

theorem encI_one (l : List Int) : ∀ u ∈ l.map encI, u.oneCell' = true := by
  intro u hu
  obtain ⟨x, _, rfl⟩ := List.mem_map.1 hu
  rfl

set_option maxHeartbeats 400000 in
theorem sortI_any (w : World) (v : Value) (h : Option Nat) (n : Nat) (l : List Int) (hs : Sl w 3 1 v h n (l.map encI)) (hn : n ≤ 1099511627776) :
    Calls Tryz.prog 125 #[v] w fun e w' => e = .returned (.tuple #[]) ∧ Sl w' 3 1 v h n ((sortI l).map encI) ∧ Chg h.toList w w' := by
  have hl : l.length = n := by have := hs.1; simpa using this
  rcases hs.2 with ⟨rfl, rfl, rfl⟩ | ⟨b, off, cap, cur, rfl, rfl, hB, hnc, hcm, hcs, ht⟩
  · obtain rfl : l = [] := List.eq_nil_of_length_eq_zero hl
    refine (Tryz.slices_Sort_int_none none 0 w).mono ?_
    rintro e w' ⟨rfl, rfl⟩
    exact ⟨rfl, by simpa [sortI] using hs, Chg.refl _ _⟩
  · have hc := Tryz.slices_Sort_int b off cap l w hs.holdsI hB.lt (by omega)
    rw [hl] at hc
    refine hc.mono ?_
    rintro e w' ⟨rfl, q, os, rfl⟩
    refine ⟨rfl, ?_, grow_chgI _ _ _ _ _ _⟩
    have h2 := hs.putRowI q (sortI l).toArray (by simp [sortI_length, hl]) os
    exact h2

set_option maxHeartbeats 400000 in
theorem compactI_any (w : World) (v : Value) (h : Option Nat) (n : Nat) (l : List Int) (hs : Sl w 3 1 v h n (l.map encI)) (hn : n ≤ 1099511627776) :
    Calls Tryz.prog 126 #[v] w fun e w' => ∃ v', e = .returned v' ∧ Sl w' 3 1 v' h (Lib.compact l).length ((Lib.compact l).map encI) ∧ Chg h.toList w w' := by
  have hl : l.length = n := by have := hs.1; simpa using this
  rcases hs.2 with ⟨rfl, rfl, rfl⟩ | ⟨b, off, cap, cur, rfl, rfl, hB, hnc, hcm, hcs, ht⟩
  · obtain rfl : l = [] := List.eq_nil_of_length_eq_zero hl
    refine (Tryz.slices_Compact_int_empty none 0 w).mono ?_
    rintro e w' ⟨rfl, rfl⟩
    exact ⟨_, rfl, hs, Chg.refl _ _⟩
  · have hc := Tryz.slices_Compact_int b off cap l w hs.holdsI (by omega) (by omega)
    rw [hl] at hc
    have hle := Lib.compact_length_le l
    refine hc.mono ?_
    rintro e w' ⟨rfl, q, rfl⟩
    have h2 := hs.putRowI q (Lib.compact l ++ List.replicate (n - (Lib.compact l).length) 0).toArray (by simp; omega) #[]
    have h3 := grow_chgI w q (Lib.compact l ++ List.replicate (n - (Lib.compact l).length) 0).toArray b off #[]
    rw [grow_none] at h2 h3
    refine ⟨_, rfl, ?_, h3⟩
    have h4 := h2.shrink (Lib.compact l).length (by omega)
    have h5 : ((Lib.compact l ++ List.replicate (n - (Lib.compact l).length) 0).toArray.toList.map encI).take ((Lib.compact l).length * 1) = (Lib.compact l).map encI := by
      simp only [List.map_append, Nat.mul_one]
      rw [List.take_append_of_le_length (by simp), List.take_of_length_le (by simp)]
    rw [h5] at h4
    exact h4

theorem cloneI_any (w : World) (v : Value) (l : List Int) (S : List Nat) (hr : RdS w S 1 v l.length (l.map encI)) (hn : l.length ≤ 1099511627776) :
    Calls Tryz.prog 100 #[v] w fun e w' => ∃ v' h', e = .returned v' ∧ Sl w' 3 1 v' h' l.length (l.map encI) ∧ Below w.heap.size w w' ∧ ∀ b, h' = some b → w.heap.size ≤ b := by
  rcases hr.2 with ⟨rfl, h0⟩ | ⟨a, cap, rfl, hnc, hcm, hat⟩
  · obtain rfl : l = [] := List.eq_nil_of_length_eq_zero h0
    refine (Tryz.slices_Clone_int_nil 0 0 w).mono ?_
    rintro e w' ⟨rfl, rfl⟩
    exact ⟨_, none, rfl, Sl.nil _ _ _, Below.refl _ _, fun b hb => by cases hb⟩
  · rcases Nat.eq_zero_or_pos l.length with h0 | hpos
    · obtain rfl : l = [] := List.eq_nil_of_length_eq_zero h0
      refine (Tryz.slices_Clone_int_zero a cap w).mono ?_
      rintro e w' ⟨v', rfl, hown, _, hb⟩
      exact ⟨v', v'.ownBlock, rfl, Sl.of_own hown, hb, fun b hb => (hown.lt b hb).1⟩
    · obtain ⟨b, off, cap', hv, _, _, hlt, _, hc⟩ := hr.at_ hpos
      rw [hv]
      refine (Tryz.slices_Clone_int b off l.length cap' l w (Nat.le_refl _) (by omega) (fun j hj => ?_)).mono ?_
      · rw [hc j (by omega)]
        simp [List.getD, hj]
      · rintro e w' ⟨v', rfl, hown, _, hb⟩
        rw [List.take_length] at hown
        exact ⟨v', v'.ownBlock, rfl, Sl.of_own hown, hb, fun b hb => (hown.lt b hb).1⟩

end Go.Proofs.YtgkfknbhkonfdaaGreatDoor
