/-
  An account in memory: its struct's block, its log, its mailboxes' and emails' blocks; keywords and members of emails in blocks that nothing writes any more.
-/
import Derived.Test.YtmbibhphpjmboaaGreatDoorLogClone
import Derived.Test.YtmbibhphpjmboaaGreatDoorStrs
import Derived.Test.YtmbibhphpjmboaaGreatDoorFlat
import Derived.Test.YtmbibhphpjmboaaGreatDoorStorePlain
namespace Go.Proofs.YtmbibhphpjmboaaGreatDoor
open Go.RowKit

def strV (s : Text) : Value := .string ⟨s.toArray⟩
def encB (b : BoxP) : List Value := [.int .i64 b.id, strV b.name, .int .i64 b.parent, .int .i64 b.valid, .int .i64 b.next, .int .i64 b.mod]
def encMem (p : Int × Int) : List Value := [.int .i64 p.1, .int .i64 p.2]
/-- An email in memory: what it is, the slices of its keywords and members. -/
structure MailM where
  p : MailP
  kv : Value
  mv : Value
def encM (m : MailM) : List Value := [.int .i64 m.p.id, .int .i64 m.p.thread, strV m.p.text, .int .i64 m.p.at_, m.kv, m.mv, .int .i64 m.p.mod, .int .i64 m.p.born]
def cellsC (c : CfgP) : List Value := [strV c.user, strV c.pass, .int .i64 c.maxMails, .int .i64 c.maxBoxes, .int .i64 c.maxSize, .int .i64 c.maxUid, .int .i64 c.maxMod, .int .i64 c.maxLog, .int .i64 c.maxGet]

theorem encB_length (b : BoxP) : (encB b).length = 6 := rfl
theorem encMem_length (p : Int × Int) : (encMem p).length = 2 := rfl
theorem encM_length (m : MailM) : (encM m).length = 8 := rfl
theorem encB_one (b : BoxP) : ∀ u ∈ encB b, u.oneCell' = true := by
  intro u hu
  simp only [encB, List.mem_cons, List.not_mem_nil, or_false] at hu
  rcases hu with rfl | rfl | rfl | rfl | rfl | rfl <;> rfl
theorem encMem_one (p : Int × Int) : ∀ u ∈ encMem p, u.oneCell' = true := by
  intro u hu
  simp only [encMem, List.mem_cons, List.not_mem_nil, or_false] at hu
  rcases hu with rfl | rfl <;> rfl

/-- Where it lies. -/
structure Lies where
  gl : Nat
  hl : Option Nat
  hb : Option Nat
  hm : Option Nat
  vb : Value
  vm : Value
  ms : List MailM
def Lies.own (q : Lies) (g : Nat) : List Nat := g :: q.gl :: (q.hl.toList ++ q.hb.toList ++ q.hm.toList)
theorem Lies.own_hl {q : Lies} {g k : Nat} (h : q.hl = some k) : k ∈ q.own g := by simp [Lies.own, h]
theorem Lies.own_hb {q : Lies} {g k : Nat} (h : q.hb = some k) : k ∈ q.own g := by simp [Lies.own, h]
theorem Lies.own_hm {q : Lies} {g k : Nat} (h : q.hm = some k) : k ∈ q.own g := by simp [Lies.own, h]
theorem Lies.own_g {q : Lies} {g : Nat} : g ∈ q.own g := by simp [Lies.own]
theorem Lies.own_gl {q : Lies} {g : Nat} : q.gl ∈ q.own g := by simp [Lies.own]

def cellsS (q : Lies) (x : Acc) : List Value := cellsC x.cfg ++ [.int .i64 x.clock, q.vb, q.vm, .pointer (some ⟨q.gl, 0, none⟩), .int .i64 x.lastBox, .int .i64 x.lastId, .int .i64 x.octets]
/-- An email's keywords and members, in blocks that are none of S. -/
structure PartAt (w : World) (S : List Nat) (m : MailM) : Prop where
  keys : RdS w S 1 m.kv m.p.keys.length (m.p.keys.map encStr)
  mem : RdS w S 2 m.mv m.p.members.length (flatG encMem m.p.members)

structure StoreAt (w : World) (g : Nat) (q : Lies) (x : Acc) : Prop where
  blk : Blk w g 105 (cellsS q x).toArray
  log : LogAt w q.gl q.hl x.log
  boxes : Sl w 52 6 q.vb q.hb x.boxes.length (flatG encB x.boxes)
  same : q.ms.map (·.p) = x.mails
  mails : Sl w 40 8 q.vm q.hm x.mails.length (flatG encM q.ms)
  parts : ∀ m ∈ q.ms, PartAt w (q.own g) m

section
variable {w w' : World} {g : Nat} {q : Lies} {x : Acc} {S T : List Nat} {m : MailM}

theorem PartAt.keep (h : PartAt w S m) (hsz : w.heap.size ≤ w'.heap.size) (hk : ∀ b, b < w.heap.size → b ∉ S → w'.heap[b]? = w.heap[b]?) (hT : ∀ b, b < w.heap.size → b ∉ S → b ∉ T) : PartAt w' T m :=
  ⟨h.keys.keep hsz hk hT, h.mem.keep hsz hk hT⟩
theorem StoreAt.lt (h : StoreAt w g q x) : ∀ k ∈ q.own g, k < w.heap.size := by
  intro k hk
  obtain ⟨v, hl1, hl2⟩ := h.log
  simp only [Lies.own, List.mem_cons, List.mem_append, Option.mem_toList] at hk
  rcases hk with rfl | rfl | (hk | hk) | hk
  · exact h.blk.lt
  · exact hl1.lt
  · exact hl2.lt k hk
  · exact h.boxes.lt k hk
  · exact h.mails.lt k hk
/-- Where nothing of what was there has turned. -/
theorem StoreAt.later (h : StoreAt w g q x) (hb : Below w.heap.size w w') : StoreAt w' g q x := by
  have hc : Chg [] w w' := Chg.of_below hb []
  refine ⟨h.blk.chg hc (by simp), h.log.chg hc (by simp) (by simp), h.boxes.chg hc (by simp), h.same, h.mails.chg hc (by simp), fun m hm => (h.parts m hm).keep hb.size (fun b hb2 _ => hb.block b hb2) (fun _ _ h => h)⟩
theorem StoreAt.heap (h : StoreAt w g q x) (he : w'.heap = w.heap) (e1 : w'.os = w.os) (e2 : w'.tape = w.tape) (e3 : w'.output = w.output) : StoreAt w' g q x :=
  h.later ⟨e1, e2, e3, by rw [he]; exact Nat.le_refl _, fun k _ => by rw [he]⟩
theorem StoreAt.alloc (h : StoreAt w g q x) (o : Obj) : StoreAt (w.alloc o) g q x := h.later ((Below.refl _ w).alloc (Nat.le_refl _) o)
theorem StoreAt.drewN (h : StoreAt w g q x) (n : Nat) : StoreAt (w.drewN n) g q x := h.heap rfl rfl rfl rfl

/-- The struct's cells. -/
theorem StoreAt.cells (h : StoreAt w g q x) (j : Nat) : w.cell? ⟨g, j, none⟩ = (cellsS q x)[j]? := by
  rw [h.blk.cell]
  simp
theorem StoreAt.cell9 (h : StoreAt w g q x) : w.cell? ⟨g, 9, none⟩ = some (.int .i64 x.clock) := h.cells 9
theorem StoreAt.cell10 (h : StoreAt w g q x) : w.cell? ⟨g, 10, none⟩ = some q.vb := h.cells 10
theorem StoreAt.cell11 (h : StoreAt w g q x) : w.cell? ⟨g, 11, none⟩ = some q.vm := h.cells 11
theorem StoreAt.cell12 (h : StoreAt w g q x) : w.cell? ⟨g, 12, none⟩ = some (.pointer (some ⟨q.gl, 0, none⟩)) := h.cells 12
theorem StoreAt.cell13 (h : StoreAt w g q x) : w.cell? ⟨g, 13, none⟩ = some (.int .i64 x.lastBox) := h.cells 13
theorem StoreAt.cell14 (h : StoreAt w g q x) : w.cell? ⟨g, 14, none⟩ = some (.int .i64 x.lastId) := h.cells 14
theorem StoreAt.cell15 (h : StoreAt w g q x) : w.cell? ⟨g, 15, none⟩ = some (.int .i64 x.octets) := h.cells 15
theorem StoreAt.frozen (h : StoreAt w g q x) (j : Nat) : w.frozen? ⟨g, j, none⟩ = false := h.blk.frozen j
end

/-- How one call leaves an account: another account, where no block but its own, and new ones, have turned. -/
structure Turned (w w' : World) (g : Nat) (q : Lies) (x' : Acc) (q' : Lies) : Prop where
  at_ : StoreAt w' g q' x'
  chg : Chg (q.own g) w w'
  own : ∀ k ∈ q'.own g, k ∈ q.own g ∨ w.heap.size ≤ k

section
variable {w w' w'' : World} {g : Nat} {q q' q'' : Lies} {x x' x'' : Acc}
theorem Turned.refl (h : StoreAt w g q x) : Turned w w g q x q := ⟨h, Chg.refl _ _, fun _ h => .inl h⟩
theorem Turned.of_below (h : StoreAt w g q x) (hb : Below w.heap.size w w') : Turned w w' g q x q := ⟨h.later hb, Chg.of_below hb _, fun _ h => .inl h⟩
theorem Turned.trans (h : Turned w w' g q x' q') (k : Turned w' w'' g q' x'' q'') : Turned w w'' g q x'' q'' :=
  ⟨k.at_, h.chg.trans k.chg h.own, fun i hi => by
    rcases k.own i hi with h1 | h1
    · exact h.own i h1
    · exact .inr (Nat.le_trans h.chg.size h1)⟩
end

/-- An account of the law's own. -/
structure OwnStore (w wr : World) (g : Nat) (q : Lies) (x : Acc) : Prop where
  at_ : StoreAt wr g q x
  below : Below w.heap.size w wr
  own : ∀ k ∈ q.own g, w.heap.size ≤ k
section
variable {w wr w' : World} {g : Nat} {q q' : Lies} {x x' : Acc}
theorem OwnStore.later (h : OwnStore w wr g q x) (hb : Below wr.heap.size wr w') : OwnStore w w' g q x := ⟨h.at_.later hb, h.below.trans (hb.mono h.below.size), h.own⟩
theorem OwnStore.turned (h : OwnStore w wr g q x) (k : Turned wr w' g q x' q') : OwnStore w w' g q' x' :=
  ⟨k.at_, h.below.trans (k.chg.below h.below.size h.own), fun i hi => by
    rcases k.own i hi with h1 | h1
    · exact h.own i h1
    · exact Nat.le_trans h.below.size h1⟩
end

end Go.Proofs.YtmbibhphpjmboaaGreatDoor
