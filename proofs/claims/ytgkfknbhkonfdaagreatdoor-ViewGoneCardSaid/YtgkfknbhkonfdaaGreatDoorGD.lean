/-
  An account in memory: its struct's block, its log, its mailboxes' and emails' blocks; keywords and members of emails in blocks that nothing writes any more.
  What single steps do to an account in memory: a cell of its struct, of a mailbox, of an email; a mailbox, an email more; the log.
  The walks of slices.Clone at mailboxes and at members of emails.
  The walks of slices.IndexFunc and slices.ContainsFunc at mailboxes, emails, members and numbers: the closure may lay blocks of its own, and is asked of the elements alone.
  The walks of the store's own searches: a mailbox, an email, by its Id.
  The walks of the store's spent and number: a mailbox's next number.
  The walk of the store's turned: mailboxes' clocks, and their entries.
  The walk of the store's wanted: mailboxes, rising, each once; are they all there?
  The walks of the account's clock: the library's atomic number; Clock, step, ends.
  The walk of store.New at a config of the laws: user 'u', pass 'p', every limit from 1 to 2147483647.
  The walks of the store's Boxes, of an account that there is not, and of the numbers of an error.
  The library's Equal and Contains over lists of texts, in plain words.
-/
import Derived.Test.YtgkfknbhkonfdaaGreatDoorGA
import Derived.Test.YtgkfknbhkonfdaaGreatDoorGB
import Derived.Test.YtgkfknbhkonfdaaGreatDoorGC
import Derived.Shelf.SlicesQ.IndexFunc
import Derived.Deep.QuietTactic
import Derived.BigQuiet
import Derived.Deep.RegionLaw
import Derived.Deep.DrawnRows
import Derived.Deep.DeepCutAuto
import Derived.Deep.CutBlock
import Derived.Laws.LoneSync
namespace Go.Proofs.YtgkfknbhkonfdaaGreatDoor
open Go.RowKit

def strV (s : Text) : Value := .string ⟨s.toArray⟩
def encB (b : BoxP) : List Value := [.int .i64 b.id, strV b.name, .int .i64 b.parent, .int .i64 b.valid, .int .i64 b.next, .int .i64 b.mod]
def encMem (p : Int × Int) : List Value := [.int .i64 p.1, .int .i64 p.2]
/-- An email in memory: what it is, the slices of its keywords and members. -/
structure MailM where
  p : MailP
  kv : Value
  mv : Value
def encM (m : MailM) : List Value := [.int .i64 m.p.id, .int .i64 m.p.thread, strV m.p.text, .int .i64 m.p.at_, m.kv, m.mv, .int .i64 m.p.mod, .int .i64 m.p.born]
def cellsC (c : CfgP) : List Value := [strV c.user, strV c.pass, .int .i64 c.maxMails, .int .i64 c.maxBoxes, .int .i64 c.maxSize, .int .i64 c.maxUid, .int .i64 c.maxMod, .int .i64 c.maxLog, .int .i64 c.maxGet]

theorem encB_length (b : BoxP) : (encB b).length = 6 := rfl
theorem encMem_length (p : Int × Int) : (encMem p).length = 2 := rfl
theorem encM_length (m : MailM) : (encM m).length = 8 := rfl
theorem encB_one (b : BoxP) : ∀ u ∈ encB b, u.oneCell' = true := by
  intro u hu
  simp only [encB, List.mem_cons, List.not_mem_nil, or_false] at hu
  rcases hu with rfl | rfl | rfl | rfl | rfl | rfl <;> rfl
theorem encMem_one (p : Int × Int) : ∀ u ∈ encMem p, u.oneCell' = true := by
  intro u hu
  simp only [encMem, List.mem_cons, List.not_mem_nil, or_false] at hu
  rcases hu with rfl | rfl <;> rfl

/-- Where it lies. -/
structure Lies where
  gl : Nat
  hl : Option Nat
  hb : Option Nat
  hm : Option Nat
  vb : Value
  vm : Value
  ms : List MailM
def Lies.own (q : Lies) (g : Nat) : List Nat := g :: q.gl :: (q.hl.toList ++ q.hb.toList ++ q.hm.toList)
theorem Lies.own_hl {q : Lies} {g k : Nat} (h : q.hl = some k) : k ∈ q.own g := by simp [Lies.own, h]
theorem Lies.own_hb {q : Lies} {g k : Nat} (h : q.hb = some k) : k ∈ q.own g := by simp [Lies.own, h]
theorem Lies.own_hm {q : Lies} {g k : Nat} (h : q.hm = some k) : k ∈ q.own g := by simp [Lies.own, h]
theorem Lies.own_g {q : Lies} {g : Nat} : g ∈ q.own g := by simp [Lies.own]
theorem Lies.own_gl {q : Lies} {g : Nat} : q.gl ∈ q.own g := by simp [Lies.own]

def cellsS (q : Lies) (x : Acc) : List Value := cellsC x.cfg ++ [.int .i64 x.clock, q.vb, q.vm, .pointer (some ⟨q.gl, 0, none⟩), .int .i64 x.lastBox, .int .i64 x.lastId, .int .i64 x.octets]
/-- A slice that is not empty lies in a block of elements of type e. -/
def TyS (w : World) (e : TypeId) (v : Value) : Prop := ∀ a n c, v = .slice (some a) n c → 0 < n → ∃ cs, Blk w a.block e cs
theorem TyS.keep {w w' : World} {S : List Nat} {e : TypeId} {size n : Nat} {v : Value} {xs : List Value} (h : TyS w e v) (hr : RdS w S size v n xs) (hk : ∀ b, b < w.heap.size → b ∉ S → w'.heap[b]? = w.heap[b]?) : TyS w' e v := by
  intro a m c hv hm
  obtain ⟨cs, hB⟩ := h a m c hv hm
  rcases hr.2 with ⟨h1, _⟩ | ⟨a', cap, h1, _, _, h2⟩
  · rw [h1] at hv
    cases hv
  · rw [hv] at h1
    injection h1 with e1 e2 _
    injection e1 with e1
    subst e1 e2
    obtain ⟨_, h3, h4, _⟩ := h2 hm
    exact ⟨cs, (hk _ h3 h4).trans hB⟩
theorem Sl.ty {w : World} {e : TypeId} {size n : Nat} {v : Value} {h : Option Nat} {xs : List Value} (hs : Sl w e size v h n xs) : TyS w e v := by
  intro a m c hv _
  rcases hs.2 with ⟨_, h1, _⟩ | ⟨b, off, cap, cur, _, h1, hB, _⟩
  · rw [h1] at hv
    cases hv
  · rw [h1] at hv
    injection hv with e1 _ _
    injection e1 with e1
    subst e1
    exact ⟨cur, hB⟩
/-- .. and not in a block of another type. -/
theorem RdS.other {w : World} {S : List Nat} {e e' : TypeId} {size n b : Nat} {v : Value} {xs : List Value} {cs : Array Value} (hr : RdS w S size v n xs) (ht : TyS w e v) (hB : Blk w b e' cs) (hne : e ≠ e') : RdS w (b :: S) size v n xs := by
  refine ⟨hr.1, ?_⟩
  rcases hr.2 with h1 | ⟨a, cap, h1, h2, h3, h4⟩
  · exact .inl h1
  · refine .inr ⟨a, cap, h1, h2, h3, fun hn => ?_⟩
    obtain ⟨g1, g2, g3, g4⟩ := h4 hn
    obtain ⟨cs', hB'⟩ := ht a n cap h1 hn
    refine ⟨g1, g2, fun hm => ?_, g4⟩
    rcases List.mem_cons.1 hm with h5 | h5
    · exact hB'.ne hB hne h5
    · exact g3 h5
/-- An email's keywords and members, in blocks that are none of S. -/
structure PartAt (w : World) (S : List Nat) (m : MailM) : Prop where
  keys : RdS w S 1 m.kv m.p.keys.length (m.p.keys.map encStr)
  mem : RdS w S 2 m.mv m.p.members.length (flatG encMem m.p.members)
  tk : TyS w 9 m.kv
  tm : TyS w 138 m.mv

structure StoreAt (w : World) (g : Nat) (q : Lies) (x : Acc) : Prop where
  blk : Blk w g 134 (cellsS q x).toArray
  log : LogAt w q.gl q.hl x.log
  boxes : Sl w 80 6 q.vb q.hb x.boxes.length (flatG encB x.boxes)
  same : q.ms.map (·.p) = x.mails
  mails : Sl w 90 8 q.vm q.hm x.mails.length (flatG encM q.ms)
  parts : ∀ m ∈ q.ms, PartAt w (q.own g) m

section
variable {w w' : World} {g : Nat} {q : Lies} {x : Acc} {S T : List Nat} {m : MailM}

theorem PartAt.keep (h : PartAt w S m) (hsz : w.heap.size ≤ w'.heap.size) (hk : ∀ b, b < w.heap.size → b ∉ S → w'.heap[b]? = w.heap[b]?) (hT : ∀ b, b < w.heap.size → b ∉ S → b ∉ T) : PartAt w' T m :=
  ⟨h.keys.keep hsz hk hT, h.mem.keep hsz hk hT, h.tk.keep h.keys hk, h.tm.keep h.mem hk⟩
theorem StoreAt.lt (h : StoreAt w g q x) : ∀ k ∈ q.own g, k < w.heap.size := by
  intro k hk
  obtain ⟨v, hl1, hl2⟩ := h.log
  simp only [Lies.own, List.mem_cons, List.mem_append, Option.mem_toList] at hk
  rcases hk with rfl | rfl | (hk | hk) | hk
  · exact h.blk.lt
  · exact hl1.lt
  · exact hl2.lt k hk
  · exact h.boxes.lt k hk
  · exact h.mails.lt k hk
/-- Where nothing of what was there has turned. -/
theorem StoreAt.later (h : StoreAt w g q x) (hb : Below w.heap.size w w') : StoreAt w' g q x := by
  have hc : Chg [] w w' := Chg.of_below hb []
  refine ⟨h.blk.chg hc (by simp), h.log.chg hc (by simp) (by simp), h.boxes.chg hc (by simp), h.same, h.mails.chg hc (by simp), fun m hm => (h.parts m hm).keep hb.size (fun b hb2 _ => hb.block b hb2) (fun _ _ h => h)⟩
theorem StoreAt.heap (h : StoreAt w g q x) (he : w'.heap = w.heap) (e1 : w'.os = w.os) (e2 : w'.tape = w.tape) (e3 : w'.output = w.output) : StoreAt w' g q x :=
  h.later ⟨e1, e2, e3, by rw [he]; exact Nat.le_refl _, fun k _ => by rw [he]⟩
theorem StoreAt.alloc (h : StoreAt w g q x) (o : Obj) : StoreAt (w.alloc o) g q x := h.later ((Below.refl _ w).alloc (Nat.le_refl _) o)
theorem StoreAt.drewN (h : StoreAt w g q x) (n : Nat) : StoreAt (w.drewN n) g q x := h.heap rfl rfl rfl rfl

/-- The struct's cells. -/
theorem StoreAt.cells (h : StoreAt w g q x) (j : Nat) : w.cell? ⟨g, j, none⟩ = (cellsS q x)[j]? := by
  rw [h.blk.cell]
  simp
theorem StoreAt.cell9 (h : StoreAt w g q x) : w.cell? ⟨g, 9, none⟩ = some (.int .i64 x.clock) := h.cells 9
theorem StoreAt.cell10 (h : StoreAt w g q x) : w.cell? ⟨g, 10, none⟩ = some q.vb := h.cells 10
theorem StoreAt.cell11 (h : StoreAt w g q x) : w.cell? ⟨g, 11, none⟩ = some q.vm := h.cells 11
theorem StoreAt.cell12 (h : StoreAt w g q x) : w.cell? ⟨g, 12, none⟩ = some (.pointer (some ⟨q.gl, 0, none⟩)) := h.cells 12
theorem StoreAt.cell13 (h : StoreAt w g q x) : w.cell? ⟨g, 13, none⟩ = some (.int .i64 x.lastBox) := h.cells 13
theorem StoreAt.cell14 (h : StoreAt w g q x) : w.cell? ⟨g, 14, none⟩ = some (.int .i64 x.lastId) := h.cells 14
theorem StoreAt.cell15 (h : StoreAt w g q x) : w.cell? ⟨g, 15, none⟩ = some (.int .i64 x.octets) := h.cells 15
theorem StoreAt.frozen (h : StoreAt w g q x) (j : Nat) : w.frozen? ⟨g, j, none⟩ = false := h.blk.frozen j
end

/-- How one call leaves an account: another account, where no block but its own, and new ones, have turned. -/
structure Turned (w w' : World) (g : Nat) (q : Lies) (x' : Acc) (q' : Lies) : Prop where
  at_ : StoreAt w' g q' x'
  chg : Chg (q.own g) w w'
  own : ∀ k ∈ q'.own g, k ∈ q.own g ∨ w.heap.size ≤ k

section
variable {w w' w'' : World} {g : Nat} {q q' q'' : Lies} {x x' x'' : Acc}
theorem Turned.refl (h : StoreAt w g q x) : Turned w w g q x q := ⟨h, Chg.refl _ _, fun _ h => .inl h⟩
theorem Turned.of_below (h : StoreAt w g q x) (hb : Below w.heap.size w w') : Turned w w' g q x q := ⟨h.later hb, Chg.of_below hb _, fun _ h => .inl h⟩
theorem Turned.trans (h : Turned w w' g q x' q') (k : Turned w' w'' g q' x'' q'') : Turned w w'' g q x'' q'' :=
  ⟨k.at_, h.chg.trans k.chg h.own, fun i hi => by
    rcases k.own i hi with h1 | h1
    · exact h.own i h1
    · exact .inr (Nat.le_trans h.chg.size h1)⟩
end

/-- An account of the law's own. -/
structure OwnStore (w wr : World) (g : Nat) (q : Lies) (x : Acc) : Prop where
  at_ : StoreAt wr g q x
  below : Below w.heap.size w wr
  own : ∀ k ∈ q.own g, w.heap.size ≤ k
section
variable {w wr w' : World} {g : Nat} {q q' : Lies} {x x' : Acc}
theorem OwnStore.later (h : OwnStore w wr g q x) (hb : Below wr.heap.size wr w') : OwnStore w w' g q x := ⟨h.at_.later hb, h.below.trans (hb.mono h.below.size), h.own⟩
theorem OwnStore.turned (h : OwnStore w wr g q x) (k : Turned wr w' g q x' q') : OwnStore w w' g q' x' :=
  ⟨k.at_, h.below.trans (k.chg.below h.below.size h.own), fun i hi => by
    rcases k.own i hi with h1 | h1
    · exact h.own i h1
    · exact Nat.le_trans h.below.size h1⟩
end

end Go.Proofs.YtgkfknbhkonfdaaGreatDoor

namespace Go.Proofs.YtgkfknbhkonfdaaGreatDoor
open Go.RowKit

section
variable {w w' : World} {g : Nat} {q q' : Lies} {x x' : Acc}

theorem Sl.ne_sl {e e' : TypeId} {size size' n n' : Nat} {v v' : Value} {h h' : Option Nat} {xs xs' : List Value} (hs : Sl w e size v h n xs) (hs' : Sl w e' size' v' h' n' xs') (hne : e ≠ e') : ∀ b, h = some b → h' ≠ some b := by
  intro b hb hb'
  rcases hs'.2 with ⟨hn, _⟩ | ⟨b', off, cap, cur, hh', _, hB, _⟩
  · rw [hb'] at hn
    cases hn
  · rw [hb'] at hh'
    obtain rfl := Option.some.inj hh'
    exact hs.ne_blk hB hne b hb rfl

/-- No two of its blocks are one. -/
structure Apart (g : Nat) (q : Lies) : Prop where
  gl : g ≠ q.gl
  hl : q.hl ≠ some g
  hb : q.hb ≠ some g
  hm : q.hm ≠ some g
  lb : q.hb ≠ some q.gl
  lm : q.hm ≠ some q.gl
  ll : q.hl ≠ some q.gl
  eb : ∀ b, q.hl = some b → q.hb ≠ some b
  em : ∀ b, q.hl = some b → q.hm ≠ some b
  bm : ∀ b, q.hb = some b → q.hm ≠ some b
theorem StoreAt.apart (h : StoreAt w g q x) : Apart g q := by
  obtain ⟨v, hl1, hl2⟩ := h.log
  exact ⟨h.blk.ne hl1 (by decide), fun e => hl2.ne_blk h.blk (by decide) g e rfl, fun e => h.boxes.ne_blk h.blk (by decide) g e rfl, fun e => h.mails.ne_blk h.blk (by decide) g e rfl, fun e => h.boxes.ne_blk hl1 (by decide) _ e rfl, fun e => h.mails.ne_blk hl1 (by decide) _ e rfl,
    fun e => hl2.ne_blk hl1 (by decide) _ e rfl, hl2.ne_sl h.boxes (by decide), hl2.ne_sl h.mails (by decide), h.boxes.ne_sl h.mails (by decide)⟩
theorem PartAt.step {m : MailM} (h : PartAt w (q.own g) m) (hc : Chg (q.own g) w w') (ho : ∀ k ∈ q'.own g, k ∈ q.own g ∨ w.heap.size ≤ k) : PartAt w' (q'.own g) m :=
  h.keep hc.size hc.block fun b hb hn hm => by
    rcases ho b hm with h1 | h1
    · exact hn h1
    · omega

/-- A cell of the struct stored. -/
theorem StoreAt.setStruct (h : StoreAt w g q x) (j : Nat) (u : Value) (x' : Acc) (hcells : cellsS q x' = (cellsS q x).set j u) (hb : x'.boxes = x.boxes) (hm : x'.mails = x.mails) (hl : x'.log = x.log) : Turned w (w.setCell ⟨g, j, none⟩ u) g q x' q := by
  have ha := h.apart
  have hc : Chg [g] w (w.setCell ⟨g, j, none⟩ u) := (Chg.refl [g] w).set (.inl (by simp)) u
  have hco : Chg (q.own g) w (w.setCell ⟨g, j, none⟩ u) := hc.mono fun k hk => by
    simp only [List.mem_singleton] at hk
    subst hk
    exact .inl Lies.own_g
  refine ⟨⟨?_, ?_, ?_, ?_, ?_, fun m hmm => (h.parts m hmm).step hco (fun k hk => .inl hk)⟩, hco, fun k hk => .inl hk⟩
  · have := h.blk.set j u
    rw [show (cellsS q x').toArray = (cellsS q x).toArray.setIfInBounds j u from by rw [hcells]; simp]
    exact this
  · rw [hl]
    exact h.log.chg hc (by simpa using fun e => ha.gl e.symm) (fun b hb => by
      simp only [List.mem_singleton]
      rintro rfl
      exact ha.hl hb)
  · rw [hb]
    exact h.boxes.far (p := ⟨g, j, none⟩) ha.hb u
  · rw [hm]
    exact h.same
  · rw [hm]
    exact h.mails.far (p := ⟨g, j, none⟩) ha.hm u

/-- A cell of a mailbox stored. -/
theorem StoreAt.setBoxCell (h : StoreAt w g q x) {b off n cap : Nat} (hv : q.vb = .slice (some ⟨b, off, none⟩) n cap) (i : Nat) (hi : i < x.boxes.length) (j : Nat) (hj : j < 6) (u : Value) (y : BoxP) (hy : encB y = (encB x.boxes[i]).set j u) :
    Turned w (w.setCell ⟨b, off + i * 6 + j, none⟩ u) g q { x with boxes := x.boxes.set i y } q := by
  have ha := h.apart
  have hsb := h.boxes
  rw [hv] at hsb
  have hn : n = x.boxes.length := by
    obtain ⟨A, c, hv2, _⟩ := hsb.form
    injection hv2
  subst hn
  have hbb : q.hb = some b := by
    obtain ⟨b', off', cap', hh, hv2, _⟩ := hsb.at_ (by omega)
    injection hv2 with e1
    injection e1 with e2
    injection e2 with e3
    rw [hh, e3]
  have hgb : g ≠ b := fun e => ha.hb (by rw [hbb, e])
  have hc : Chg [b] w (w.setCell ⟨b, off + i * 6 + j, none⟩ u) := (Chg.refl [b] w).set (.inl (by simp)) u
  have hco : Chg (q.own g) w (w.setCell ⟨b, off + i * 6 + j, none⟩ u) := hc.mono fun k hk => by
    simp only [List.mem_singleton] at hk
    subst hk
    exact .inl (Lies.own_hb hbb)
  refine ⟨⟨h.blk.far (p := ⟨b, off + i * 6 + j, none⟩) hgb u, ?_, ?_, h.same, ?_, fun m hmm => (h.parts m hmm).step hco (fun k hk => .inl hk)⟩, hco, fun k hk => .inl hk⟩
  · exact h.log.chg hc (by simp only [List.mem_singleton]; rintro e; exact ha.lb (by rw [hbb, e])) (fun k hk => by
      simp only [List.mem_singleton]
      rintro rfl
      exact ha.eb _ hk hbb)
  · have h1 := hsb.store (i * 6 + j) u
    rw [flatG_set encB_length x.boxes i j hi hj u y hy] at h1
    rw [hv]
    show Sl _ _ 6 _ q.hb (x.boxes.set i y).length (flatG encB (x.boxes.set i y))
    rw [List.length_set]
    rw [← Nat.add_assoc] at h1
    exact h1
  · exact h.mails.far (p := ⟨b, off + i * 6 + j, none⟩) (fun e => ha.bm b hbb e) u

/-- The log turned. -/
theorem StoreAt.setLog (h : StoreAt w g q x) {l : LogV} {hl' : Option Nat} (hl : LogAt w' q.gl hl' l) (hc : Chg (q.gl :: q.hl.toList) w w') (ho : hl' = q.hl ∨ ∃ k, hl' = some k ∧ w.heap.size ≤ k) : Turned w w' g q { x with log := l } { q with hl := hl' } := by
  have ha := h.apart
  have hco : Chg (q.own g) w w' := hc.mono fun k hk => by
    rcases List.mem_cons.1 hk with rfl | hk
    · exact .inl Lies.own_gl
    · exact .inl (Lies.own_hl (by simpa using hk))
  have hown : ∀ k ∈ ({ q with hl := hl' } : Lies).own g, k ∈ q.own g ∨ w.heap.size ≤ k := by
    intro k hk
    simp only [Lies.own, List.mem_cons, List.mem_append, Option.mem_toList] at hk ⊢
    rcases hk with h1 | h1 | (h1 | h1) | h1
    · exact .inl (.inl h1)
    · exact .inl (.inr (.inl h1))
    · rcases ho with h2 | ⟨k2, h2, h3⟩
      · rw [h2] at h1
        exact .inl (.inr (.inr (.inl (.inl h1))))
      · rw [h2] at h1
        injection h1 with h1
        exact .inr (by omega)
    · exact .inl (.inr (.inr (.inl (.inr h1))))
    · exact .inl (.inr (.inr (.inr h1)))
  refine ⟨⟨?_, hl, ?_, h.same, ?_, fun m hmm => (h.parts m hmm).step hco hown⟩, hco, hown⟩
  · exact h.blk.chg hc (by
      simp only [List.mem_cons, Option.mem_toList, not_or]
      exact ⟨ha.gl, ha.hl⟩)
  · exact h.boxes.chg hc (fun b hb => by
      simp only [List.mem_cons, Option.mem_toList, not_or]
      exact ⟨fun e => ha.lb (by rw [hb, e]), fun e => ha.eb b e hb⟩)
  · exact h.mails.chg hc (fun b hb => by
      simp only [List.mem_cons, Option.mem_toList, not_or]
      exact ⟨fun e => ha.lm (by rw [hb, e]), fun e => ha.em b e hb⟩)

/-- A mailbox more: the slice that an append handed back is stored. -/
theorem StoreAt.pushBox (h : StoreAt w g q x) (y : BoxP) {v' : Value} {h' : Option Nat} (hs : Sl w' 80 6 v' h' (x.boxes.length + 1) (flatG encB x.boxes ++ encB y)) (hc : Chg q.hb.toList w w') (ho : h' = q.hb ∨ ∃ k, h' = some k ∧ w.heap.size ≤ k) :
    Turned w (w'.setCell ⟨g, 10, none⟩ v') g q { x with boxes := x.boxes ++ [y] } { q with hb := h', vb := v' } := by
  have ha := h.apart
  have hgl : g < w.heap.size := h.blk.lt
  have hnew : ∀ k, h' = some k → (q.hb = some k) ∨ w.heap.size ≤ k := by
    intro k hk
    rcases ho with h2 | ⟨k2, h2, h3⟩
    · exact .inl (by rw [← h2]; exact hk)
    · rw [h2] at hk
      injection hk with hk
      exact .inr (by omega)
  have hgh : h' ≠ some g := fun e => by
    rcases hnew g e with h1 | h1
    · exact ha.hb h1
    · omega
  have hco : Chg (q.own g) w (w'.setCell ⟨g, 10, none⟩ v') := (hc.mono fun k hk => .inl (Lies.own_hb (by simpa using hk))).set (p := ⟨g, 10, none⟩) (.inl Lies.own_g) v'
  have hown : ∀ k ∈ ({ q with hb := h', vb := v' } : Lies).own g, k ∈ q.own g ∨ w.heap.size ≤ k := by
    intro k hk
    simp only [Lies.own, List.mem_cons, List.mem_append, Option.mem_toList] at hk ⊢
    rcases hk with h1 | h1 | (h1 | h1) | h1
    · exact .inl (.inl h1)
    · exact .inl (.inr (.inl h1))
    · exact .inl (.inr (.inr (.inl (.inl h1))))
    · rcases hnew k h1 with h2 | h2
      · exact .inl (.inr (.inr (.inl (.inr h2))))
      · exact .inr h2
    · exact .inl (.inr (.inr (.inr h1)))
  have hc2 : Chg (g :: q.hb.toList) w (w'.setCell ⟨g, 10, none⟩ v') := (hc.mono fun k hk => .inl (List.mem_cons_of_mem _ hk)).set (.inl (by simp)) v'
  refine ⟨⟨?_, ?_, ?_, h.same, ?_, fun m hmm => (h.parts m hmm).step hco hown⟩, hco, hown⟩
  · have hB := (h.blk.chg hc (by simpa using ha.hb)).set 10 v'
    exact hB
  · exact h.log.chg hc2 (by
      simp only [List.mem_cons, Option.mem_toList, not_or]
      exact ⟨fun e => ha.gl e.symm, ha.lb⟩) (fun b hb => by
      simp only [List.mem_cons, Option.mem_toList, not_or]
      exact ⟨fun e => ha.hl (by rw [hb, e]), ha.eb b hb⟩)
  · have h1 := hs.far (p := ⟨g, 10, none⟩) hgh v'
    show Sl _ _ 6 v' h' (x.boxes ++ [y]).length (flatG encB (x.boxes ++ [y]))
    rw [List.length_append, List.length_singleton, flatG_snoc]
    exact h1
  · exact h.mails.chg hc2 (fun b hb => by
      simp only [List.mem_cons, Option.mem_toList, not_or]
      exact ⟨fun e => ha.hm (by rw [hb, e]), fun e => ha.bm b e hb⟩)

/-- An email more. -/
theorem StoreAt.pushMail (h : StoreAt w g q x) (m : MailM) {v' : Value} {h' : Option Nat} (hp : PartAt w (q.own g) m) (hs : Sl w' 90 8 v' h' (x.mails.length + 1) (flatG encM q.ms ++ encM m)) (hc : Chg q.hm.toList w w') (ho : h' = q.hm ∨ ∃ k, h' = some k ∧ w.heap.size ≤ k) :
    Turned w (w'.setCell ⟨g, 11, none⟩ v') g q { x with mails := x.mails ++ [m.p] } { q with hm := h', vm := v', ms := q.ms ++ [m] } := by
  have ha := h.apart
  have hgl : g < w.heap.size := h.blk.lt
  have hnew : ∀ k, h' = some k → (q.hm = some k) ∨ w.heap.size ≤ k := by
    intro k hk
    rcases ho with h2 | ⟨k2, h2, h3⟩
    · exact .inl (by rw [← h2]; exact hk)
    · rw [h2] at hk
      injection hk with hk
      exact .inr (by omega)
  have hgh : h' ≠ some g := fun e => by
    rcases hnew g e with h1 | h1
    · exact ha.hm h1
    · omega
  have hco : Chg (q.own g) w (w'.setCell ⟨g, 11, none⟩ v') := (hc.mono fun k hk => .inl (Lies.own_hm (by simpa using hk))).set (p := ⟨g, 11, none⟩) (.inl Lies.own_g) v'
  have hown : ∀ k ∈ ({ q with hm := h', vm := v', ms := q.ms ++ [m] } : Lies).own g, k ∈ q.own g ∨ w.heap.size ≤ k := by
    intro k hk
    simp only [Lies.own, List.mem_cons, List.mem_append, Option.mem_toList] at hk ⊢
    rcases hk with h1 | h1 | (h1 | h1) | h1
    · exact .inl (.inl h1)
    · exact .inl (.inr (.inl h1))
    · exact .inl (.inr (.inr (.inl (.inl h1))))
    · exact .inl (.inr (.inr (.inl (.inr h1))))
    · rcases hnew k h1 with h2 | h2
      · exact .inl (.inr (.inr (.inr h2)))
      · exact .inr h2
  have hc2 : Chg (g :: q.hm.toList) w (w'.setCell ⟨g, 11, none⟩ v') := (hc.mono fun k hk => .inl (List.mem_cons_of_mem _ hk)).set (.inl (by simp)) v'
  refine ⟨⟨?_, ?_, ?_, ?_, ?_, fun a ha2 => ?_⟩, hco, hown⟩
  · have hB := (h.blk.chg hc (by simpa using ha.hm)).set 11 v'
    exact hB
  · exact h.log.chg hc2 (by
      simp only [List.mem_cons, Option.mem_toList, not_or]
      exact ⟨fun e => ha.gl e.symm, ha.lm⟩) (fun b hb => by
      simp only [List.mem_cons, Option.mem_toList, not_or]
      exact ⟨fun e => ha.hl (by rw [hb, e]), ha.em b hb⟩)
  · exact h.boxes.chg hc2 (fun b hb => by
      simp only [List.mem_cons, Option.mem_toList, not_or]
      exact ⟨fun e => ha.hb (by rw [hb, e]), ha.bm b hb⟩)
  · show (q.ms ++ [m]).map (·.p) = x.mails ++ [m.p]
    rw [List.map_append, h.same]
    rfl
  · have h1 := hs.far (p := ⟨g, 11, none⟩) hgh v'
    show Sl _ _ 8 v' h' (x.mails ++ [m.p]).length (flatG encM (q.ms ++ [m]))
    rw [List.length_append, List.length_singleton, flatG_snoc]
    exact h1
  · rcases List.mem_append.1 ha2 with h1 | h1
    · exact (h.parts a h1).step hco hown
    · rw [List.mem_singleton] at h1
      subst h1
      exact hp.step hco hown

/-- Where there is a mailbox: its cells. -/
theorem StoreAt.boxAt (h : StoreAt w g q x) (i : Nat) (hi : i < x.boxes.length) : ∃ b off cap, q.vb = .slice (some ⟨b, off, none⟩) x.boxes.length cap ∧ q.hb = some b ∧ x.boxes.length ≤ cap ∧ cap ≤ maxLen ∧ b < w.heap.size ∧
    ∀ j, j < 6 → w.cell? ⟨b, off + i * 6 + j, none⟩ = (encB x.boxes[i])[j]? ∧ w.frozen? ⟨b, off + i * 6 + j, none⟩ = false := by
  obtain ⟨b, off, cap, hh, hv, h1, h2, h3, hat⟩ := h.boxes.at_ (by omega)
  refine ⟨b, off, cap, hv, hh, h1, h2, h3, fun j hj => ?_⟩
  have hlt : i * 6 + j < x.boxes.length * 6 := by omega
  obtain ⟨c1, c2⟩ := hat (i * 6 + j) hlt
  rw [← Nat.add_assoc] at c1 c2
  exact ⟨c1.trans (flatG_get encB_length x.boxes i j hi hj), c2⟩
theorem StoreAt.msLen (h : StoreAt w g q x) : q.ms.length = x.mails.length := by
  rw [← h.same, List.length_map]
theorem StoreAt.msAt (h : StoreAt w g q x) (i : Nat) (hi : i < x.mails.length) (hi2 : i < q.ms.length) : q.ms[i].p = x.mails[i] := by
  have h1 := h.same
  have h2 : (q.ms.map (·.p))[i]? = x.mails[i]? := by rw [h1]
  rw [List.getElem?_map, List.getElem?_eq_getElem hi2, List.getElem?_eq_getElem hi] at h2
  exact Option.some.inj h2
/-- Where there is an email: its cells. -/
theorem StoreAt.mailAt (h : StoreAt w g q x) (i : Nat) (hi : i < x.mails.length) (hi2 : i < q.ms.length) : ∃ b off cap, q.vm = .slice (some ⟨b, off, none⟩) x.mails.length cap ∧ q.hm = some b ∧ x.mails.length ≤ cap ∧ cap ≤ maxLen ∧ b < w.heap.size ∧
    ∀ j, j < 8 → w.cell? ⟨b, off + i * 8 + j, none⟩ = (encM q.ms[i])[j]? ∧ w.frozen? ⟨b, off + i * 8 + j, none⟩ = false := by
  obtain ⟨b, off, cap, hh, hv, h1, h2, h3, hat⟩ := h.mails.at_ (by omega)
  refine ⟨b, off, cap, hv, hh, h1, h2, h3, fun j hj => ?_⟩
  have hlt : i * 8 + j < x.mails.length * 8 := by omega
  obtain ⟨c1, c2⟩ := hat (i * 8 + j) hlt
  rw [← Nat.add_assoc] at c1 c2
  exact ⟨c1.trans (flatG_get encM_length q.ms i j hi2 hj), c2⟩
/-- A cell of an email stored. -/
theorem StoreAt.setMailCell (h : StoreAt w g q x) {b off n cap : Nat} (hv : q.vm = .slice (some ⟨b, off, none⟩) n cap) (i : Nat) (hi : i < x.mails.length) (hi2 : i < q.ms.length) (j : Nat) (hj : j < 8) (u : Value) (m : MailM) (hm : encM m = (encM q.ms[i]).set j u) (hp : PartAt w (q.own g) m) :
    Turned w (w.setCell ⟨b, off + i * 8 + j, none⟩ u) g q { x with mails := x.mails.set i m.p } { q with ms := q.ms.set i m } := by
  have ha := h.apart
  have hsb := h.mails
  rw [hv] at hsb
  have hn : n = x.mails.length := by
    obtain ⟨A, c, hv2, _⟩ := hsb.form
    injection hv2
  subst hn
  have hbb : q.hm = some b := by
    obtain ⟨b', off', cap', hh, hv2, _⟩ := hsb.at_ (by omega)
    injection hv2 with e1
    injection e1 with e2
    injection e2 with e3
    rw [hh, e3]
  have hgb : g ≠ b := fun e => ha.hm (by rw [hbb, e])
  have hc : Chg [b] w (w.setCell ⟨b, off + i * 8 + j, none⟩ u) := (Chg.refl [b] w).set (.inl (by simp)) u
  have hco : Chg (q.own g) w (w.setCell ⟨b, off + i * 8 + j, none⟩ u) := hc.mono fun k hk => by
    simp only [List.mem_singleton] at hk
    subst hk
    exact .inl (Lies.own_hm hbb)
  have hown : ∀ k ∈ ({ q with ms := q.ms.set i m } : Lies).own g, k ∈ q.own g ∨ w.heap.size ≤ k := fun k hk => .inl hk
  refine ⟨⟨h.blk.far (p := ⟨b, off + i * 8 + j, none⟩) hgb u, ?_, ?_, ?_, ?_, fun a ha2 => ?_⟩, hco, hown⟩
  · exact h.log.chg hc (by simp only [List.mem_singleton]; rintro e; exact ha.lm (by rw [hbb, e])) (fun k hk => by
      simp only [List.mem_singleton]
      rintro rfl
      exact ha.em _ hk hbb)
  · exact h.boxes.far (p := ⟨b, off + i * 8 + j, none⟩) (fun e => ha.bm b e hbb) u
  · show (q.ms.set i m).map (·.p) = x.mails.set i m.p
    rw [List.map_set, h.same]
  · have h1 := hsb.store (i * 8 + j) u
    rw [flatG_set encM_length q.ms i j hi2 hj u m hm] at h1
    rw [hv]
    show Sl _ _ 8 _ q.hm (x.mails.set i m.p).length (flatG encM (q.ms.set i m))
    rw [List.length_set]
    rw [← Nat.add_assoc] at h1
    exact h1
  · rcases List.mem_or_eq_of_mem_set ha2 with h1 | h1
    · exact (h.parts a h1).step hco hown
    · subst h1
      exact hp.step hco hown

/-- A new account. -/
theorem storeAt_new {gl b : Nat} {c : CfgP} (hB : Blk w g 134 (cellsS ⟨gl, none, some b, none, .slice (some ⟨b, 0, none⟩) 1 1, .slice none 0 0, []⟩ (newP c)).toArray) (hl : LogAt w gl none ⟨c.maxLog, [], 0⟩)
    (hb : Blk w b 80 (encB ⟨1, inboxT, 0, 1, 1, 1⟩).toArray) : StoreAt w g ⟨gl, none, some b, none, .slice (some ⟨b, 0, none⟩) 1 1, .slice none 0 0, []⟩ (newP c) := by
  refine ⟨hB, hl, ⟨rfl, .inr ⟨b, 0, 1, _, rfl, rfl, hb, Nat.le_refl _, by unfold maxLen; omega, by simp [encB], ?_⟩⟩, rfl, Sl.nil _ _ _, fun m hm => by simp at hm⟩
  simp [newP, flatG, encB]
/-- A block of another type, that is none of the account's, turns: the account stands. -/
theorem StoreAt.other (h : StoreAt w g q x) {b : Nat} {e : TypeId} {cs : Array Value} (hB : Blk w b e cs) (h1 : e ≠ 9) (h2 : e ≠ 138) (hb : b ∉ q.own g) (hc : Chg [b] w w') : StoreAt w' g q x := by
  have hnb : ∀ k ∈ q.own g, k ∉ [b] := fun k hk hm => hb (by rw [← List.mem_singleton.1 hm]; exact hk)
  refine ⟨h.blk.chg hc (hnb g Lies.own_g), h.log.chg hc (hnb _ Lies.own_gl) (fun k hk => hnb k (Lies.own_hl hk)), h.boxes.chg hc (fun k hk => hnb k (Lies.own_hb hk)), h.same, h.mails.chg hc (fun k hk => hnb k (Lies.own_hm hk)), fun m hm => ?_⟩
  have hp := h.parts m hm
  have hp2 : PartAt w (b :: q.own g) m := ⟨hp.keys.other hp.tk hB (fun e => h1 e.symm), hp.mem.other hp.tm hB (fun e => h2 e.symm), hp.tk, hp.tm⟩
  exact hp2.keep hc.size (fun k hk hn => hc.block k hk (fun hm => hn (by rw [List.mem_singleton.1 hm]; simp))) (fun k _ hn hk => hn (List.mem_cons_of_mem _ hk))
end

end Go.Proofs.YtgkfknbhkonfdaaGreatDoor

namespace Go.Proofs.YtgkfknbhkonfdaaGreatDoor
open Go.RowKit
attribute [local go_sem ↓] Go.wp_at_zero Go.wp_at_succ

theorem Try.infoBox : (Tryz.prog.info? 80).map (fun i => (i.zero, i.size, i.bytes)) = some (some (.agg #[.int .i64 0, .string ⟨#[]⟩, .int .i64 0, .int .i64 0, .int .i64 0, .int .i64 0]), 6, 56) := by kernel_rfl
theorem Try.infoMember : (Tryz.prog.info? 138).map (fun i => (i.zero, i.size, i.bytes)) = some (some (.agg #[.int .i64 0, .int .i64 0]), 2, 16) := by kernel_rfl

set_option maxRecDepth 100000 in
set_option maxHeartbeats 400000 in
theorem cloneB_any (w : World) (v : Value) (n : Nat) (xs : List Value) (hr : RdS w [] 6 v n xs) (h1 : ∀ u ∈ xs, u.oneCell' = true) (hn : n ≤ 1099511627776) :
    Calls Tryz.prog 95 #[v] w fun e w' => ∃ v' h', e = .returned v' ∧ Sl w' 80 6 v' h' n xs ∧ Below w.heap.size w w' ∧ ∀ b, h' = some b → w.heap.size ≤ b := by
  obtain ⟨i0, hi, hz0, hz1, hz2⟩ := info_parts Try.infoBox
  rcases hr with ⟨hlen, ⟨rfl, rfl⟩ | ⟨a, cap, rfl, hnc, hcm, hcell⟩⟩
  · have hx : xs = [] := List.eq_nil_of_length_eq_zero (by simpa using hlen)
    subst hx
    have heq := fun W => Lib.run_eql_slice_nil (P := Tryz.prog) W 78 80 none 0 0 0 0 Tryz.underlying78
    go_enter Tryz.func95, Tryz.ntmps95
    go_wp2
    go_ret
    exact ⟨_, none, rfl, Sl.nil _ _ _, Below.refl _ _, fun b hb => by cases hb⟩
  · have heq := fun W => Lib.run_eql_slice_nil (P := Tryz.prog) W 78 80 (some a) n cap 0 0 Tryz.underlying78
    have hcc := cells_of_rds a hlen hcell
    go_enter Tryz.func95, Tryz.ntmps95
    go_wp2_with (at_builtin; refine wpList_append_slA _ rfl _ _ 78 rfl Tryz.underlying78 hi hz0 hz1 hz2 rfl (by decide) (slOwn_empty w 80 6) rfl a n cap xs rfl hlen ?_ h1 ?_ ?_ ?_)
    · intro j u hu
      have hb := World.block_lt_of_cell? w _ (hcc j u hu)
      rw [World.cell?_alloc_lt w _ _ hb]
      exact hcc j u hu
    · unfold maxLen
      omega
    · omega
    · intro v2 h2 w2 hs2 hc2 ho2
      have hbel : Below w.heap.size w w2 := ⟨hc2.os, hc2.tape, hc2.output, Nat.le_trans (by simp) hc2.size, fun k hk => (hc2.block k (by simp; omega) (by simp; omega)).trans (Below.heap_alloc w _ k hk)⟩
      have hfr : ∀ b, h2 = some b → w.heap.size ≤ b := by
        intro b hb
        rcases ho2 with h3 | ⟨g, h3, h4⟩
        · rw [hb] at h3
          injection h3 with h3
          omega
        · rw [hb] at h3
          injection h3 with h3
          omega
      clear hc2 ho2
      go_wp2
      go_ret
      exact ⟨v2, h2, rfl, hs2, hbel, hfr⟩

set_option maxRecDepth 100000 in
set_option maxHeartbeats 400000 in
theorem cloneMem_any (w : World) (v : Value) (n : Nat) (xs : List Value) (hr : RdS w [] 2 v n xs) (h1 : ∀ u ∈ xs, u.oneCell' = true) (hn : n ≤ 1099511627776) :
    Calls Tryz.prog 105 #[v] w fun e w' => ∃ v' h', e = .returned v' ∧ Sl w' 138 2 v' h' n xs ∧ Below w.heap.size w w' ∧ ∀ b, h' = some b → w.heap.size ≤ b := by
  obtain ⟨i0, hi, hz0, hz1, hz2⟩ := info_parts Try.infoMember
  rcases hr with ⟨hlen, ⟨rfl, rfl⟩ | ⟨a, cap, rfl, hnc, hcm, hcell⟩⟩
  · have hx : xs = [] := List.eq_nil_of_length_eq_zero (by simpa using hlen)
    subst hx
    have heq := fun W => Lib.run_eql_slice_nil (P := Tryz.prog) W 88 138 none 0 0 0 0 Tryz.underlying88
    go_enter Tryz.func105, Tryz.ntmps105
    go_wp2
    go_ret
    exact ⟨_, none, rfl, Sl.nil _ _ _, Below.refl _ _, fun b hb => by cases hb⟩
  · have heq := fun W => Lib.run_eql_slice_nil (P := Tryz.prog) W 88 138 (some a) n cap 0 0 Tryz.underlying88
    have hcc := cells_of_rds a hlen hcell
    go_enter Tryz.func105, Tryz.ntmps105
    go_wp2_with (at_builtin; refine wpList_append_slA _ rfl _ _ 88 rfl Tryz.underlying88 hi hz0 hz1 hz2 rfl (by decide) (slOwn_empty w 138 2) rfl a n cap xs rfl hlen ?_ h1 ?_ ?_ ?_)
    · intro j u hu
      have hb := World.block_lt_of_cell? w _ (hcc j u hu)
      rw [World.cell?_alloc_lt w _ _ hb]
      exact hcc j u hu
    · unfold maxLen
      omega
    · omega
    · intro v2 h2 w2 hs2 hc2 ho2
      have hbel : Below w.heap.size w w2 := ⟨hc2.os, hc2.tape, hc2.output, Nat.le_trans (by simp) hc2.size, fun k hk => (hc2.block k (by simp; omega) (by simp; omega)).trans (Below.heap_alloc w _ k hk)⟩
      have hfr : ∀ b, h2 = some b → w.heap.size ≤ b := by
        intro b hb
        rcases ho2 with h3 | ⟨g, h3, h4⟩
        · rw [hb] at h3
          injection h3 with h3
          omega
        · rw [hb] at h3
          injection h3 with h3
          omega
      clear hc2 ho2
      go_wp2
      go_ret
      exact ⟨v2, h2, rfl, hs2, hbel, hfr⟩

end Go.Proofs.YtgkfknbhkonfdaaGreatDoor

namespace Go.Proofs.YtgkfknbhkonfdaaGreatDoor
open Go.Shelf Go.RowKit Go.Lib
attribute [local go_sem ↓] Go.wp_at_zero Go.wp_at_succ

theorem place_hit {α : Type} [Inhabited α] (p : α → Bool) : ∀ (l : List α) (k : Nat), k < l.length → p l[k]! = true → (∀ j, j < k → p l[j]! = false) → place p l = k
  | x :: r, 0, _, h, _ => by
    have : p x = true := by simpa using h
    simp [place, this]
  | x :: r, k + 1, hk, h, hj => by
    have h0 : p x = false := by simpa using hj 0 (by omega)
    have ih := place_hit p r k (by simpa using hk) (by simpa using h) (fun j hj2 => by simpa using hj (j + 1) (by omega))
    unfold place
    rw [h0, ih]
    simp
    omega
theorem place_miss {α : Type} [Inhabited α] (p : α → Bool) (l : List α) (h : ∀ j, j < l.length → p l[j]! = false) : place p l = -1 := by
  refine place_neg p l ?_
  rw [List.any_eq_false]
  intro x hx
  obtain ⟨j, hj, rfl⟩ := List.getElem_of_mem hx
  have := h j hj
  rw [getElem!_pos l j hj] at this
  simp [this]
theorem any_place {α : Type} (p : α → Bool) (l : List α) : l.any p = decide (0 ≤ place p l) := by
  cases h : l.any p with
  | true => simp [place_pos p l h]
  | false => simp [place_neg p l h]
theorem len6 {l : List Value} (h : l.length = 6) : ∃ a b c d e f, l = [a, b, c, d, e, f] := by
  rcases l with _ | ⟨a, _ | ⟨b, _ | ⟨c, _ | ⟨d, _ | ⟨e, _ | ⟨f, _ | ⟨u, v⟩⟩⟩⟩⟩⟩⟩ <;> first | exact ⟨_, _, _, _, _, _, rfl⟩ | (exfalso; simp at h; done) | (exfalso; simp at h; omega)
theorem len8 {l : List Value} (h : l.length = 8) : ∃ a b c d e f i j, l = [a, b, c, d, e, f, i, j] := by
  rcases l with _ | ⟨a, _ | ⟨b, _ | ⟨c, _ | ⟨d, _ | ⟨e, _ | ⟨f, _ | ⟨i, _ | ⟨j, _ | ⟨u, v⟩⟩⟩⟩⟩⟩⟩⟩⟩ <;> first | exact ⟨_, _, _, _, _, _, _, _, rfl⟩ | (exfalso; simp at h; done) | (exfalso; simp at h; omega)
theorem len2 {l : List Value} (h : l.length = 2) : ∃ a b, l = [a, b] := by
  rcases l with _ | ⟨a, _ | ⟨b, _ | ⟨u, v⟩⟩⟩ <;> first | exact ⟨_, _, rfl⟩ | (exfalso; simp at h; done) | (exfalso; simp at h; omega)
theorem mem_get! {α : Type} [Inhabited α] {l : List α} {j : Nat} (hj : j < l.length) : l[j]! ∈ l := by
  rw [getElem!_pos l j hj]
  exact List.getElem_mem hj
instance : Inhabited MailM := ⟨⟨default, default, default⟩⟩

set_option maxHeartbeats 2000000 in
theorem idxB_own {α : Type} [Inhabited α] (enc : α → List Value) (hk : ∀ x, (enc x).length = 6) (p : α → Bool) (g : Nat) (lb : Array Value) (eg : ∀ args w, (callFunc g args).run Tryz.prog w = .ok (.enter g args) w) (b off n c : Nat) (zs : List α) (w : World)
    (hp : ∀ W, Below w.heap.size w W → ∀ x ∈ zs, Calls Tryz.prog g (#[.agg (enc x).toArray] ++ lb) W fun e w' => e = .returned (.bool (p x)) ∧ Below w.heap.size w w') (hz : zs.length = n) (hbig : n ≤ 9223372036854775807) (hb : b < w.heap.size)
    (hc : ∀ j, j < zs.length → ∀ i v, (enc zs[j]!)[i]? = some v → w.cell? ⟨b, off + j * 6 + i, none⟩ = some v) :
    Calls Tryz.prog 94 #[.slice (some ⟨b, off, none⟩) n c, .func (.func g) #[] lb] w fun e w' => e = .returned (.int .i64 (place p zs)) ∧ Below w.heap.size w w' := by
  have hrow : ∀ (W : World), Below w.heap.size w W → ∀ j, j < zs.length → ∀ i v, (enc zs[j]!)[i]? = some v → W.cell? ⟨b, off + j * 6 + i, none⟩ = some v := fun W hW j hj i v hi => (hW.cell (p := ⟨b, off + j * 6 + i, none⟩) hb).trans (hc j hj i v hi)
  clear hc
  go_enter Tryz.func94, Tryz.ntmps94
  go_wp2
  go_loopg [5, 8] n (fun gg _ s8 wr => ∃ kk : Nat, kk ≤ n ∧ n - kk ≤ gg ∧ s8 = .int .i64 kk ∧ Aside (Below w.heap.size w wr) ∧ Aside (∀ j, j < kk → p zs[j]! = false))
  case atStart => exact ⟨0, Nat.zero_le _, by omega, rfl, Below.refl _ w, fun j hj => absurd hj (Nat.not_lt_zero _)⟩
  case round =>
    obtain ⟨kk, hkk, hg, rfl, BW, A⟩ := hrel
    by_cases hlt : kk < n
    · have hltz : (kk : Int) < (n : Int) := by omega
      have l2 := hrow wr BW.out kk (by omega)
      have hcall := hp wr BW.out zs[kk]! (mem_get! (by omega))
      clear hrow hp
      generalize hy : zs[kk]! = y at l2 hcall
      have B : Aside (zs[kk]! = y) := hy
      clear hy
      obtain ⟨u0, u1, u2, u3, u4, u5, hv⟩ := len6 (hk y)
      rw [hv] at l2 hcall
      have d0 : wr.cell? ⟨b, off + kk * 6, none⟩ = some u0 := l2 0 u0 rfl
      have d1 : wr.cell? ⟨b, off + kk * 6 + 1, none⟩ = some u1 := l2 1 u1 rfl
      have d2 : wr.cell? ⟨b, off + kk * 6 + 2, none⟩ = some u2 := l2 2 u2 rfl
      have d3 : wr.cell? ⟨b, off + kk * 6 + 3, none⟩ = some u3 := l2 3 u3 rfl
      have d4 : wr.cell? ⟨b, off + kk * 6 + 4, none⟩ = some u4 := l2 4 u4 rfl
      have d5 : wr.cell? ⟨b, off + kk * 6 + 5, none⟩ = some u5 := l2 5 u5 rfl
      have hcall : Calls Tryz.prog g (#[.agg #[u0, u1, u2, u3, u4, u5]] ++ lb) wr fun e w' => e = .returned (.bool (p y)) ∧ Below w.heap.size w w' := hcall
      have HV := Lib.hid hv
      clear l2 hv
      cases hq : p y with
      | true =>
        rw [hq] at hcall
        go_wp2_with (go_at_fn g; refine hcall.mono ?_; rintro e w' ⟨rfl, hb'⟩)
        go_ret
        refine ⟨?_, hb'⟩
        rw [place_hit p zs kk (by omega) (by rw [B.out]; exact hq) A.out]
        rfl
      | false =>
        rw [hq] at hcall
        go_wp2_with (go_at_fn g; refine hcall.mono ?_; rintro e w' ⟨rfl, hb'⟩)
        go_roundg (n - (kk + 1))
        case measure => omega
        case rel =>
          refine ⟨kk + 1, by omega, by omega, by go_num, hb', (show Aside _ from fun j hj => ?_)⟩
          by_cases e : j = kk
          · subst e
            rw [B.out]; exact hq
          · exact A.out j (by omega)
    · have hltz : ¬ (kk : Int) < (n : Int) := by omega
      have : kk = n := by omega
      subst this
      go_wp2
      go_ret
      refine ⟨?_, BW.out⟩
      rw [place_miss p zs (fun j hj => A.out j (by omega))]
      rfl

set_option maxHeartbeats 1000000 in
theorem idxB_empty (a : Option Addr) (c : Nat) (fv : Value) (w : World) :
    Calls Tryz.prog 94 #[.slice a 0 c, fv] w fun e w' => e = .returned (.int .i64 (-1)) ∧ w' = w := by
  go_enter Tryz.func94, Tryz.ntmps94
  go_wp2
  go_loopg [5, 8] 0 (fun _ _ s8 wr => s8 = .int .i64 0 ∧ wr = w)
  case atStart => exact ⟨rfl, rfl⟩
  case round =>
    obtain ⟨rfl, rfl⟩ := hrel
    go_wp2
    go_ret
    exact ⟨rfl, rfl⟩

theorem idxB_any (v : Value) (S : List Nat) (l : List BoxP) (p : BoxP → Bool) (g : Nat) (lb : Array Value) (eg : ∀ args w, (callFunc g args).run Tryz.prog w = .ok (.enter g args) w) (w : World) (hr : RdS w S 6 v l.length (flatG encB l)) (hn : l.length ≤ 1099511627776)
    (hp : ∀ W, Below w.heap.size w W → ∀ x ∈ l, Calls Tryz.prog g (#[.agg (encB x).toArray] ++ lb) W fun e w' => e = .returned (.bool (p x)) ∧ Below w.heap.size w w') :
    Calls Tryz.prog 94 #[v, .func (.func g) #[] lb] w fun e w' => e = .returned (.int .i64 (place p l)) ∧ Below w.heap.size w w' := by
  rcases Nat.eq_zero_or_pos l.length with h0 | hpos
  · obtain rfl : l = [] := List.eq_nil_of_length_eq_zero h0
    obtain ⟨A, cap, rfl, _, _⟩ := hr.form
    refine (idxB_empty A cap _ w).mono ?_
    rintro e w' ⟨rfl, rfl⟩
    exact ⟨rfl, Below.refl _ _⟩
  · obtain ⟨b, off, cap, rfl, _, _, hlt, _, hat⟩ := hr.at_ hpos
    exact idxB_own encB encB_length p g lb eg b off l.length cap l w hp rfl (by omega) hlt (fun j hj i v hv => by
      rw [getElem!_pos l j hj] at hv
      have h2 : i < 6 := by
        have := (List.getElem?_eq_some_iff.1 hv).1
        rw [encB_length] at this
        exact this
      rw [show off + j * 6 + i = off + (j * 6 + i) by omega, hat _ (by omega), flatG_get encB_length l j i hj h2]
      exact hv)
theorem hasB_any (v : Value) (S : List Nat) (l : List BoxP) (p : BoxP → Bool) (g : Nat) (lb : Array Value) (eg : ∀ args w, (callFunc g args).run Tryz.prog w = .ok (.enter g args) w) (w : World) (hr : RdS w S 6 v l.length (flatG encB l)) (hn : l.length ≤ 1099511627776)
    (hp : ∀ W, Below w.heap.size w W → ∀ x ∈ l, Calls Tryz.prog g (#[.agg (encB x).toArray] ++ lb) W fun e w' => e = .returned (.bool (p x)) ∧ Below w.heap.size w w') :
    Calls Tryz.prog 38 #[v, .func (.func g) #[] lb] w fun e w' => e = .returned (.bool (l.any p)) ∧ Below w.heap.size w w' := by
  have hi := idxB_any v S l p g lb eg w hr hn hp
  rw [any_place]
  generalize place p l = r at hi
  clear hp hr hn eg
  go_enter Tryz.func38, Tryz.ntmps38
  go_wp2_with (go_at_call 94; refine hi.mono ?_; rintro e w' ⟨rfl, hb'⟩)
  go_ret
  exact ⟨rfl, hb'⟩

set_option maxHeartbeats 2000000 in
theorem idxM_own {α : Type} [Inhabited α] (enc : α → List Value) (hk : ∀ x, (enc x).length = 8) (p : α → Bool) (g : Nat) (lb : Array Value) (eg : ∀ args w, (callFunc g args).run Tryz.prog w = .ok (.enter g args) w) (b off n c : Nat) (zs : List α) (w : World)
    (hp : ∀ W, Below w.heap.size w W → ∀ x ∈ zs, Calls Tryz.prog g (#[.agg (enc x).toArray] ++ lb) W fun e w' => e = .returned (.bool (p x)) ∧ Below w.heap.size w w') (hz : zs.length = n) (hbig : n ≤ 9223372036854775807) (hb : b < w.heap.size)
    (hc : ∀ j, j < zs.length → ∀ i v, (enc zs[j]!)[i]? = some v → w.cell? ⟨b, off + j * 8 + i, none⟩ = some v) :
    Calls Tryz.prog 134 #[.slice (some ⟨b, off, none⟩) n c, .func (.func g) #[] lb] w fun e w' => e = .returned (.int .i64 (place p zs)) ∧ Below w.heap.size w w' := by
  have hrow : ∀ (W : World), Below w.heap.size w W → ∀ j, j < zs.length → ∀ i v, (enc zs[j]!)[i]? = some v → W.cell? ⟨b, off + j * 8 + i, none⟩ = some v := fun W hW j hj i v hi => (hW.cell (p := ⟨b, off + j * 8 + i, none⟩) hb).trans (hc j hj i v hi)
  clear hc
  go_enter Tryz.func134, Tryz.ntmps134
  go_wp2
  go_loopg [5, 8] n (fun gg _ s8 wr => ∃ kk : Nat, kk ≤ n ∧ n - kk ≤ gg ∧ s8 = .int .i64 kk ∧ Aside (Below w.heap.size w wr) ∧ Aside (∀ j, j < kk → p zs[j]! = false))
  case atStart => exact ⟨0, Nat.zero_le _, by omega, rfl, Below.refl _ w, fun j hj => absurd hj (Nat.not_lt_zero _)⟩
  case round =>
    obtain ⟨kk, hkk, hg, rfl, BW, A⟩ := hrel
    by_cases hlt : kk < n
    · have hltz : (kk : Int) < (n : Int) := by omega
      have l2 := hrow wr BW.out kk (by omega)
      have hcall := hp wr BW.out zs[kk]! (mem_get! (by omega))
      clear hrow hp
      generalize hy : zs[kk]! = y at l2 hcall
      have B : Aside (zs[kk]! = y) := hy
      clear hy
      obtain ⟨u0, u1, u2, u3, u4, u5, u6, u7, hv⟩ := len8 (hk y)
      rw [hv] at l2 hcall
      have d0 : wr.cell? ⟨b, off + kk * 8, none⟩ = some u0 := l2 0 u0 rfl
      have d1 : wr.cell? ⟨b, off + kk * 8 + 1, none⟩ = some u1 := l2 1 u1 rfl
      have d2 : wr.cell? ⟨b, off + kk * 8 + 2, none⟩ = some u2 := l2 2 u2 rfl
      have d3 : wr.cell? ⟨b, off + kk * 8 + 3, none⟩ = some u3 := l2 3 u3 rfl
      have d4 : wr.cell? ⟨b, off + kk * 8 + 4, none⟩ = some u4 := l2 4 u4 rfl
      have d5 : wr.cell? ⟨b, off + kk * 8 + 5, none⟩ = some u5 := l2 5 u5 rfl
      have d6 : wr.cell? ⟨b, off + kk * 8 + 6, none⟩ = some u6 := l2 6 u6 rfl
      have d7 : wr.cell? ⟨b, off + kk * 8 + 7, none⟩ = some u7 := l2 7 u7 rfl
      have hcall : Calls Tryz.prog g (#[.agg #[u0, u1, u2, u3, u4, u5, u6, u7]] ++ lb) wr fun e w' => e = .returned (.bool (p y)) ∧ Below w.heap.size w w' := hcall
      have HV := Lib.hid hv
      clear l2 hv
      cases hq : p y with
      | true =>
        rw [hq] at hcall
        go_wp2_with (go_at_fn g; refine hcall.mono ?_; rintro e w' ⟨rfl, hb'⟩)
        go_ret
        refine ⟨?_, hb'⟩
        rw [place_hit p zs kk (by omega) (by rw [B.out]; exact hq) A.out]
        rfl
      | false =>
        rw [hq] at hcall
        go_wp2_with (go_at_fn g; refine hcall.mono ?_; rintro e w' ⟨rfl, hb'⟩)
        go_roundg (n - (kk + 1))
        case measure => omega
        case rel =>
          refine ⟨kk + 1, by omega, by omega, by go_num, hb', (show Aside _ from fun j hj => ?_)⟩
          by_cases e : j = kk
          · subst e
            rw [B.out]; exact hq
          · exact A.out j (by omega)
    · have hltz : ¬ (kk : Int) < (n : Int) := by omega
      have : kk = n := by omega
      subst this
      go_wp2
      go_ret
      refine ⟨?_, BW.out⟩
      rw [place_miss p zs (fun j hj => A.out j (by omega))]
      rfl

set_option maxHeartbeats 1000000 in
theorem idxM_empty (a : Option Addr) (c : Nat) (fv : Value) (w : World) :
    Calls Tryz.prog 134 #[.slice a 0 c, fv] w fun e w' => e = .returned (.int .i64 (-1)) ∧ w' = w := by
  go_enter Tryz.func134, Tryz.ntmps134
  go_wp2
  go_loopg [5, 8] 0 (fun _ _ s8 wr => s8 = .int .i64 0 ∧ wr = w)
  case atStart => exact ⟨rfl, rfl⟩
  case round =>
    obtain ⟨rfl, rfl⟩ := hrel
    go_wp2
    go_ret
    exact ⟨rfl, rfl⟩

theorem idxM_any (v : Value) (S : List Nat) (l : List MailM) (p : MailM → Bool) (g : Nat) (lb : Array Value) (eg : ∀ args w, (callFunc g args).run Tryz.prog w = .ok (.enter g args) w) (w : World) (hr : RdS w S 8 v l.length (flatG encM l)) (hn : l.length ≤ 1099511627776)
    (hp : ∀ W, Below w.heap.size w W → ∀ x ∈ l, Calls Tryz.prog g (#[.agg (encM x).toArray] ++ lb) W fun e w' => e = .returned (.bool (p x)) ∧ Below w.heap.size w w') :
    Calls Tryz.prog 134 #[v, .func (.func g) #[] lb] w fun e w' => e = .returned (.int .i64 (place p l)) ∧ Below w.heap.size w w' := by
  rcases Nat.eq_zero_or_pos l.length with h0 | hpos
  · obtain rfl : l = [] := List.eq_nil_of_length_eq_zero h0
    obtain ⟨A, cap, rfl, _, _⟩ := hr.form
    refine (idxM_empty A cap _ w).mono ?_
    rintro e w' ⟨rfl, rfl⟩
    exact ⟨rfl, Below.refl _ _⟩
  · obtain ⟨b, off, cap, rfl, _, _, hlt, _, hat⟩ := hr.at_ hpos
    exact idxM_own encM encM_length p g lb eg b off l.length cap l w hp rfl (by omega) hlt (fun j hj i v hv => by
      rw [getElem!_pos l j hj] at hv
      have h2 : i < 8 := by
        have := (List.getElem?_eq_some_iff.1 hv).1
        rw [encM_length] at this
        exact this
      rw [show off + j * 8 + i = off + (j * 8 + i) by omega, hat _ (by omega), flatG_get encM_length l j i hj h2]
      exact hv)
theorem hasM_any (v : Value) (S : List Nat) (l : List MailM) (p : MailM → Bool) (g : Nat) (lb : Array Value) (eg : ∀ args w, (callFunc g args).run Tryz.prog w = .ok (.enter g args) w) (w : World) (hr : RdS w S 8 v l.length (flatG encM l)) (hn : l.length ≤ 1099511627776)
    (hp : ∀ W, Below w.heap.size w W → ∀ x ∈ l, Calls Tryz.prog g (#[.agg (encM x).toArray] ++ lb) W fun e w' => e = .returned (.bool (p x)) ∧ Below w.heap.size w w') :
    Calls Tryz.prog 73 #[v, .func (.func g) #[] lb] w fun e w' => e = .returned (.bool (l.any p)) ∧ Below w.heap.size w w' := by
  have hi := idxM_any v S l p g lb eg w hr hn hp
  rw [any_place]
  generalize place p l = r at hi
  clear hp hr hn eg
  go_enter Tryz.func73, Tryz.ntmps73
  go_wp2_with (go_at_call 134; refine hi.mono ?_; rintro e w' ⟨rfl, hb'⟩)
  go_ret
  exact ⟨rfl, hb'⟩

set_option maxHeartbeats 2000000 in
theorem idxP_own {α : Type} [Inhabited α] (enc : α → List Value) (hk : ∀ x, (enc x).length = 2) (p : α → Bool) (g : Nat) (lb : Array Value) (eg : ∀ args w, (callFunc g args).run Tryz.prog w = .ok (.enter g args) w) (b off n c : Nat) (zs : List α) (w : World)
    (hp : ∀ W, Below w.heap.size w W → ∀ x ∈ zs, Calls Tryz.prog g (#[.agg (enc x).toArray] ++ lb) W fun e w' => e = .returned (.bool (p x)) ∧ Below w.heap.size w w') (hz : zs.length = n) (hbig : n ≤ 9223372036854775807) (hb : b < w.heap.size)
    (hc : ∀ j, j < zs.length → ∀ i v, (enc zs[j]!)[i]? = some v → w.cell? ⟨b, off + j * 2 + i, none⟩ = some v) :
    Calls Tryz.prog 167 #[.slice (some ⟨b, off, none⟩) n c, .func (.func g) #[] lb] w fun e w' => e = .returned (.int .i64 (place p zs)) ∧ Below w.heap.size w w' := by
  have hrow : ∀ (W : World), Below w.heap.size w W → ∀ j, j < zs.length → ∀ i v, (enc zs[j]!)[i]? = some v → W.cell? ⟨b, off + j * 2 + i, none⟩ = some v := fun W hW j hj i v hi => (hW.cell (p := ⟨b, off + j * 2 + i, none⟩) hb).trans (hc j hj i v hi)
  clear hc
  go_enter Tryz.func167, Tryz.ntmps167
  go_wp2
  go_loopg [5, 8] n (fun gg _ s8 wr => ∃ kk : Nat, kk ≤ n ∧ n - kk ≤ gg ∧ s8 = .int .i64 kk ∧ Aside (Below w.heap.size w wr) ∧ Aside (∀ j, j < kk → p zs[j]! = false))
  case atStart => exact ⟨0, Nat.zero_le _, by omega, rfl, Below.refl _ w, fun j hj => absurd hj (Nat.not_lt_zero _)⟩
  case round =>
    obtain ⟨kk, hkk, hg, rfl, BW, A⟩ := hrel
    by_cases hlt : kk < n
    · have hltz : (kk : Int) < (n : Int) := by omega
      have l2 := hrow wr BW.out kk (by omega)
      have hcall := hp wr BW.out zs[kk]! (mem_get! (by omega))
      clear hrow hp
      generalize hy : zs[kk]! = y at l2 hcall
      have B : Aside (zs[kk]! = y) := hy
      clear hy
      obtain ⟨u0, u1, hv⟩ := len2 (hk y)
      rw [hv] at l2 hcall
      have d0 : wr.cell? ⟨b, off + kk * 2, none⟩ = some u0 := l2 0 u0 rfl
      have d1 : wr.cell? ⟨b, off + kk * 2 + 1, none⟩ = some u1 := l2 1 u1 rfl
      have hcall : Calls Tryz.prog g (#[.agg #[u0, u1]] ++ lb) wr fun e w' => e = .returned (.bool (p y)) ∧ Below w.heap.size w w' := hcall
      have HV := Lib.hid hv
      clear l2 hv
      cases hq : p y with
      | true =>
        rw [hq] at hcall
        go_wp2_with (go_at_fn g; refine hcall.mono ?_; rintro e w' ⟨rfl, hb'⟩)
        go_ret
        refine ⟨?_, hb'⟩
        rw [place_hit p zs kk (by omega) (by rw [B.out]; exact hq) A.out]
        rfl
      | false =>
        rw [hq] at hcall
        go_wp2_with (go_at_fn g; refine hcall.mono ?_; rintro e w' ⟨rfl, hb'⟩)
        go_roundg (n - (kk + 1))
        case measure => omega
        case rel =>
          refine ⟨kk + 1, by omega, by omega, by go_num, hb', (show Aside _ from fun j hj => ?_)⟩
          by_cases e : j = kk
          · subst e
            rw [B.out]; exact hq
          · exact A.out j (by omega)
    · have hltz : ¬ (kk : Int) < (n : Int) := by omega
      have : kk = n := by omega
      subst this
      go_wp2
      go_ret
      refine ⟨?_, BW.out⟩
      rw [place_miss p zs (fun j hj => A.out j (by omega))]
      rfl

set_option maxHeartbeats 1000000 in
theorem idxP_empty (a : Option Addr) (c : Nat) (fv : Value) (w : World) :
    Calls Tryz.prog 167 #[.slice a 0 c, fv] w fun e w' => e = .returned (.int .i64 (-1)) ∧ w' = w := by
  go_enter Tryz.func167, Tryz.ntmps167
  go_wp2
  go_loopg [5, 8] 0 (fun _ _ s8 wr => s8 = .int .i64 0 ∧ wr = w)
  case atStart => exact ⟨rfl, rfl⟩
  case round =>
    obtain ⟨rfl, rfl⟩ := hrel
    go_wp2
    go_ret
    exact ⟨rfl, rfl⟩

theorem idxP_any (v : Value) (S : List Nat) (l : List (Int × Int)) (p : (Int × Int) → Bool) (g : Nat) (lb : Array Value) (eg : ∀ args w, (callFunc g args).run Tryz.prog w = .ok (.enter g args) w) (w : World) (hr : RdS w S 2 v l.length (flatG encMem l)) (hn : l.length ≤ 1099511627776)
    (hp : ∀ W, Below w.heap.size w W → ∀ x ∈ l, Calls Tryz.prog g (#[.agg (encMem x).toArray] ++ lb) W fun e w' => e = .returned (.bool (p x)) ∧ Below w.heap.size w w') :
    Calls Tryz.prog 167 #[v, .func (.func g) #[] lb] w fun e w' => e = .returned (.int .i64 (place p l)) ∧ Below w.heap.size w w' := by
  rcases Nat.eq_zero_or_pos l.length with h0 | hpos
  · obtain rfl : l = [] := List.eq_nil_of_length_eq_zero h0
    obtain ⟨A, cap, rfl, _, _⟩ := hr.form
    refine (idxP_empty A cap _ w).mono ?_
    rintro e w' ⟨rfl, rfl⟩
    exact ⟨rfl, Below.refl _ _⟩
  · obtain ⟨b, off, cap, rfl, _, _, hlt, _, hat⟩ := hr.at_ hpos
    exact idxP_own encMem encMem_length p g lb eg b off l.length cap l w hp rfl (by omega) hlt (fun j hj i v hv => by
      rw [getElem!_pos l j hj] at hv
      have h2 : i < 2 := by
        have := (List.getElem?_eq_some_iff.1 hv).1
        rw [encMem_length] at this
        exact this
      rw [show off + j * 2 + i = off + (j * 2 + i) by omega, hat _ (by omega), flatG_get encMem_length l j i hj h2]
      exact hv)
theorem hasP_any (v : Value) (S : List Nat) (l : List (Int × Int)) (p : (Int × Int) → Bool) (g : Nat) (lb : Array Value) (eg : ∀ args w, (callFunc g args).run Tryz.prog w = .ok (.enter g args) w) (w : World) (hr : RdS w S 2 v l.length (flatG encMem l)) (hn : l.length ≤ 1099511627776)
    (hp : ∀ W, Below w.heap.size w W → ∀ x ∈ l, Calls Tryz.prog g (#[.agg (encMem x).toArray] ++ lb) W fun e w' => e = .returned (.bool (p x)) ∧ Below w.heap.size w w') :
    Calls Tryz.prog 185 #[v, .func (.func g) #[] lb] w fun e w' => e = .returned (.bool (l.any p)) ∧ Below w.heap.size w w' := by
  have hi := idxP_any v S l p g lb eg w hr hn hp
  rw [any_place]
  generalize place p l = r at hi
  clear hp hr hn eg
  go_enter Tryz.func185, Tryz.ntmps185
  go_wp2_with (go_at_call 167; refine hi.mono ?_; rintro e w' ⟨rfl, hb'⟩)
  go_ret
  exact ⟨rfl, hb'⟩

set_option maxHeartbeats 2000000 in
theorem idxI_own (p : Int → Bool) (g : Nat) (lb : Array Value) (eg : ∀ args w, (callFunc g args).run Tryz.prog w = .ok (.enter g args) w) (b off n c : Nat) (zs : List Int) (w : World)
    (hp : ∀ W, Below w.heap.size w W → ∀ x ∈ zs, Calls Tryz.prog g (#[.int .i64 x] ++ lb) W fun e w' => e = .returned (.bool (p x)) ∧ Below w.heap.size w w') (hz : zs.length = n) (hbig : n ≤ 9223372036854775807) (hb : b < w.heap.size)
    (hc : ∀ j, j < zs.length → w.cell? ⟨b, off + j, none⟩ = some (.int .i64 zs[j]!)) :
    Calls Tryz.prog 129 #[.slice (some ⟨b, off, none⟩) n c, .func (.func g) #[] lb] w fun e w' => e = .returned (.int .i64 (place p zs)) ∧ Below w.heap.size w w' := by
  have hrow : ∀ (W : World), Below w.heap.size w W → ∀ j, j < zs.length → W.cell? ⟨b, off + j, none⟩ = some (.int .i64 zs[j]!) := fun W hW j hj => (hW.cell (p := ⟨b, off + j, none⟩) hb).trans (hc j hj)
  clear hc
  go_enter Tryz.func129, Tryz.ntmps129
  go_wp2
  go_loopg [5, 8] n (fun gg _ s8 wr => ∃ kk : Nat, kk ≤ n ∧ n - kk ≤ gg ∧ s8 = .int .i64 kk ∧ Aside (Below w.heap.size w wr) ∧ Aside (∀ j, j < kk → p zs[j]! = false))
  case atStart => exact ⟨0, Nat.zero_le _, by omega, rfl, Below.refl _ w, fun j hj => absurd hj (Nat.not_lt_zero _)⟩
  case round =>
    obtain ⟨kk, hkk, hg, rfl, BW, A⟩ := hrel
    by_cases hlt : kk < n
    · have hltz : (kk : Int) < (n : Int) := by omega
      have l2 := hrow wr BW.out kk (by omega)
      have hcall := hp wr BW.out zs[kk]! (mem_get! (by omega))
      clear hrow hp
      generalize hy : zs[kk]! = y at l2 hcall
      have B : Aside (zs[kk]! = y) := hy
      clear hy
      cases hq : p y with
      | true =>
        rw [hq] at hcall
        go_wp2_with (go_at_fn g; refine hcall.mono ?_; rintro e w' ⟨rfl, hb'⟩)
        go_ret
        refine ⟨?_, hb'⟩
        rw [place_hit p zs kk (by omega) (by rw [B.out]; exact hq) A.out]
        rfl
      | false =>
        rw [hq] at hcall
        go_wp2_with (go_at_fn g; refine hcall.mono ?_; rintro e w' ⟨rfl, hb'⟩)
        go_roundg (n - (kk + 1))
        case measure => omega
        case rel =>
          refine ⟨kk + 1, by omega, by omega, by go_num, hb', (show Aside _ from fun j hj => ?_)⟩
          by_cases e : j = kk
          · subst e
            rw [B.out]; exact hq
          · exact A.out j (by omega)
    · have hltz : ¬ (kk : Int) < (n : Int) := by omega
      have : kk = n := by omega
      subst this
      go_wp2
      go_ret
      refine ⟨?_, BW.out⟩
      rw [place_miss p zs (fun j hj => A.out j (by omega))]
      rfl

set_option maxHeartbeats 1000000 in
theorem idxI_empty (a : Option Addr) (c : Nat) (fv : Value) (w : World) :
    Calls Tryz.prog 129 #[.slice a 0 c, fv] w fun e w' => e = .returned (.int .i64 (-1)) ∧ w' = w := by
  go_enter Tryz.func129, Tryz.ntmps129
  go_wp2
  go_loopg [5, 8] 0 (fun _ _ s8 wr => s8 = .int .i64 0 ∧ wr = w)
  case atStart => exact ⟨rfl, rfl⟩
  case round =>
    obtain ⟨rfl, rfl⟩ := hrel
    go_wp2
    go_ret
    exact ⟨rfl, rfl⟩

theorem idxI_any (v : Value) (S : List Nat) (l : List Int) (p : Int → Bool) (g : Nat) (lb : Array Value) (eg : ∀ args w, (callFunc g args).run Tryz.prog w = .ok (.enter g args) w) (w : World) (hr : RdS w S 1 v l.length (l.map encI)) (hn : l.length ≤ 1099511627776)
    (hp : ∀ W, Below w.heap.size w W → ∀ x ∈ l, Calls Tryz.prog g (#[.int .i64 x] ++ lb) W fun e w' => e = .returned (.bool (p x)) ∧ Below w.heap.size w w') :
    Calls Tryz.prog 129 #[v, .func (.func g) #[] lb] w fun e w' => e = .returned (.int .i64 (place p l)) ∧ Below w.heap.size w w' := by
  rcases Nat.eq_zero_or_pos l.length with h0 | hpos
  · obtain rfl : l = [] := List.eq_nil_of_length_eq_zero h0
    obtain ⟨A, cap, rfl, _, _⟩ := hr.form
    refine (idxI_empty A cap _ w).mono ?_
    rintro e w' ⟨rfl, rfl⟩
    exact ⟨rfl, Below.refl _ _⟩
  · obtain ⟨b, off, cap, rfl, _, _, hlt, _, hat⟩ := hr.at_ hpos
    exact idxI_own p g lb eg b off l.length cap l w hp rfl (by omega) hlt (fun j hj => by
      rw [hat j (by omega), getElem!_pos l j hj]
      simp [hj])
theorem hasI_any (v : Value) (S : List Nat) (l : List Int) (p : Int → Bool) (g : Nat) (lb : Array Value) (eg : ∀ args w, (callFunc g args).run Tryz.prog w = .ok (.enter g args) w) (w : World) (hr : RdS w S 1 v l.length (l.map encI)) (hn : l.length ≤ 1099511627776)
    (hp : ∀ W, Below w.heap.size w W → ∀ x ∈ l, Calls Tryz.prog g (#[.int .i64 x] ++ lb) W fun e w' => e = .returned (.bool (p x)) ∧ Below w.heap.size w w') :
    Calls Tryz.prog 64 #[v, .func (.func g) #[] lb] w fun e w' => e = .returned (.bool (l.any p)) ∧ Below w.heap.size w w' := by
  have hi := idxI_any v S l p g lb eg w hr hn hp
  rw [any_place]
  generalize place p l = r at hi
  clear hp hr hn eg
  go_enter Tryz.func64, Tryz.ntmps64
  go_wp2_with (go_at_call 129; refine hi.mono ?_; rintro e w' ⟨rfl, hb'⟩)
  go_ret
  exact ⟨rfl, hb'⟩

set_option maxHeartbeats 2000000 in
theorem idxJ_own (p : Int → Bool) (g : Nat) (r : Value) (eg : ∀ args w, (callFunc g args).run Tryz.prog w = .ok (.enter g args) w) (b off n c : Nat) (zs : List Int) (w : World)
    (hp : ∀ W, Below w.heap.size w W → ∀ x ∈ zs, Calls Tryz.prog g #[r, .int .i64 x] W fun e w' => e = .returned (.bool (p x)) ∧ Below w.heap.size w w') (hz : zs.length = n) (hbig : n ≤ 9223372036854775807) (hb : b < w.heap.size)
    (hc : ∀ j, j < zs.length → w.cell? ⟨b, off + j, none⟩ = some (.int .i64 zs[j]!)) :
    Calls Tryz.prog 129 #[.slice (some ⟨b, off, none⟩) n c, .func (.func g) #[r] #[]] w fun e w' => e = .returned (.int .i64 (place p zs)) ∧ Below w.heap.size w w' := by
  have hrow : ∀ (W : World), Below w.heap.size w W → ∀ j, j < zs.length → W.cell? ⟨b, off + j, none⟩ = some (.int .i64 zs[j]!) := fun W hW j hj => (hW.cell (p := ⟨b, off + j, none⟩) hb).trans (hc j hj)
  clear hc
  go_enter Tryz.func129, Tryz.ntmps129
  go_wp2
  go_loopg [5, 8] n (fun gg _ s8 wr => ∃ kk : Nat, kk ≤ n ∧ n - kk ≤ gg ∧ s8 = .int .i64 kk ∧ Aside (Below w.heap.size w wr) ∧ Aside (∀ j, j < kk → p zs[j]! = false))
  case atStart => exact ⟨0, Nat.zero_le _, by omega, rfl, Below.refl _ w, fun j hj => absurd hj (Nat.not_lt_zero _)⟩
  case round =>
    obtain ⟨kk, hkk, hg, rfl, BW, A⟩ := hrel
    by_cases hlt : kk < n
    · have hltz : (kk : Int) < (n : Int) := by omega
      have l2 := hrow wr BW.out kk (by omega)
      have hcall := hp wr BW.out zs[kk]! (mem_get! (by omega))
      clear hrow hp
      generalize hy : zs[kk]! = y at l2 hcall
      have B : Aside (zs[kk]! = y) := hy
      clear hy
      cases hq : p y with
      | true =>
        rw [hq] at hcall
        go_wp2_with (go_at_fn g; refine hcall.mono ?_; rintro e w' ⟨rfl, hb'⟩)
        go_ret
        refine ⟨?_, hb'⟩
        rw [place_hit p zs kk (by omega) (by rw [B.out]; exact hq) A.out]
        rfl
      | false =>
        rw [hq] at hcall
        go_wp2_with (go_at_fn g; refine hcall.mono ?_; rintro e w' ⟨rfl, hb'⟩)
        go_roundg (n - (kk + 1))
        case measure => omega
        case rel =>
          refine ⟨kk + 1, by omega, by omega, by go_num, hb', (show Aside _ from fun j hj => ?_)⟩
          by_cases e : j = kk
          · subst e
            rw [B.out]; exact hq
          · exact A.out j (by omega)
    · have hltz : ¬ (kk : Int) < (n : Int) := by omega
      have : kk = n := by omega
      subst this
      go_wp2
      go_ret
      refine ⟨?_, BW.out⟩
      rw [place_miss p zs (fun j hj => A.out j (by omega))]
      rfl

theorem idxJ_any (v : Value) (S : List Nat) (l : List Int) (p : Int → Bool) (g : Nat) (r : Value) (eg : ∀ args w, (callFunc g args).run Tryz.prog w = .ok (.enter g args) w) (w : World) (hr : RdS w S 1 v l.length (l.map encI)) (hn : l.length ≤ 1099511627776)
    (hp : ∀ W, Below w.heap.size w W → ∀ x ∈ l, Calls Tryz.prog g #[r, .int .i64 x] W fun e w' => e = .returned (.bool (p x)) ∧ Below w.heap.size w w') :
    Calls Tryz.prog 129 #[v, .func (.func g) #[r] #[]] w fun e w' => e = .returned (.int .i64 (place p l)) ∧ Below w.heap.size w w' := by
  rcases Nat.eq_zero_or_pos l.length with h0 | hpos
  · obtain rfl : l = [] := List.eq_nil_of_length_eq_zero h0
    obtain ⟨A, cap, rfl, _, _⟩ := hr.form
    refine (idxI_empty A cap _ w).mono ?_
    rintro e w' ⟨rfl, rfl⟩
    exact ⟨rfl, Below.refl _ _⟩
  · obtain ⟨b, off, cap, rfl, _, _, hlt, _, hat⟩ := hr.at_ hpos
    exact idxJ_own p g r eg b off l.length cap l w hp rfl (by omega) hlt (fun j hj => by
      rw [hat j (by omega), getElem!_pos l j hj]
      simp [hj])
theorem hasJ_any (v : Value) (S : List Nat) (l : List Int) (p : Int → Bool) (g : Nat) (r : Value) (eg : ∀ args w, (callFunc g args).run Tryz.prog w = .ok (.enter g args) w) (w : World) (hr : RdS w S 1 v l.length (l.map encI)) (hn : l.length ≤ 1099511627776)
    (hp : ∀ W, Below w.heap.size w W → ∀ x ∈ l, Calls Tryz.prog g #[r, .int .i64 x] W fun e w' => e = .returned (.bool (p x)) ∧ Below w.heap.size w w') :
    Calls Tryz.prog 64 #[v, .func (.func g) #[r] #[]] w fun e w' => e = .returned (.bool (l.any p)) ∧ Below w.heap.size w w' := by
  have hi := idxJ_any v S l p g r eg w hr hn hp
  rw [any_place]
  generalize place p l = r at hi
  clear hp hr hn eg
  go_enter Tryz.func64, Tryz.ntmps64
  go_wp2_with (go_at_call 129; refine hi.mono ?_; rintro e w' ⟨rfl, hb'⟩)
  go_ret
  exact ⟨rfl, hb'⟩

end Go.Proofs.YtgkfknbhkonfdaaGreatDoor

namespace Go.Proofs.YtgkfknbhkonfdaaGreatDoor
open Go.Shelf Go.RowKit Go.Lib
attribute [local go_sem ↓] Go.wp_at_zero Go.wp_at_succ

theorem boxPred_any (id : Int) (B : Nat) (w W : World) (x : BoxP) (hB : w.cell? ⟨B, 0, none⟩ = some (.int .i64 id)) (hb : Below w.heap.size w W) :
    Calls Tryz.prog 178 (#[.agg (encB x).toArray] ++ #[.pointer (some ⟨B, 0, none⟩)]) W fun e w' => e = .returned (.bool (decide (x.id = id))) ∧ Below w.heap.size w w' := by
  have hlt := World.block_lt_of_cell? _ _ hB
  have hc := (hb.cell (p := ⟨B, 0, none⟩) hlt).trans hB
  have hlt2 : B < W.heap.size := Nat.lt_of_lt_of_le hlt hb.size
  obtain ⟨i, nm, pa, va, ne, mo⟩ := x
  show Calls Tryz.prog 178 #[.agg #[.int .i64 i, .string ⟨nm.toArray⟩, .int .i64 pa, .int .i64 va, .int .i64 ne, .int .i64 mo], .pointer (some ⟨B, 0, none⟩)] W _
  have hc2 : (W.alloc (.cells #[.int .i64 i, .string ⟨nm.toArray⟩, .int .i64 pa, .int .i64 va, .int .i64 ne, .int .i64 mo] 80)).cell? ⟨B, 0, none⟩ = some (.int .i64 id) := (World.cell?_alloc_lt W _ _ hlt2).trans hc
  have HB := Lib.hid hb
  clear hb hc hB
  by_cases hi : i = id
  · subst hi
    simp only [decide_true]
    go_enter Tryz.func178, Tryz.ntmps178
    go_wp2
    go_ret
    exact ⟨rfl, HB.out.alloc HB.out.size _⟩
  · have e : (i == id) = false := by simpa using hi
    have e2 : decide (i = id) = false := decide_eq_false hi
    simp only [e2]
    clear e2 hi
    go_enter Tryz.func178, Tryz.ntmps178
    go_wp2
    go_ret
    exact ⟨rfl, HB.out.alloc HB.out.size _⟩

theorem mailPred_any (id : Int) (B : Nat) (w W : World) (x : MailM) (hB : w.cell? ⟨B, 0, none⟩ = some (.int .i64 id)) (hb : Below w.heap.size w W) :
    Calls Tryz.prog 135 (#[.agg (encM x).toArray] ++ #[.pointer (some ⟨B, 0, none⟩)]) W fun e w' => e = .returned (.bool (decide (x.p.id = id))) ∧ Below w.heap.size w w' := by
  have hlt := World.block_lt_of_cell? _ _ hB
  have hc := (hb.cell (p := ⟨B, 0, none⟩) hlt).trans hB
  have hlt2 : B < W.heap.size := Nat.lt_of_lt_of_le hlt hb.size
  obtain ⟨⟨i, th, tx, ta, ks, me, mo, bo⟩, kv, mv⟩ := x
  show Calls Tryz.prog 135 #[.agg #[.int .i64 i, .int .i64 th, .string ⟨tx.toArray⟩, .int .i64 ta, kv, mv, .int .i64 mo, .int .i64 bo], .pointer (some ⟨B, 0, none⟩)] W _
  have hc2 : (W.alloc (.cells #[.int .i64 i, .int .i64 th, .string ⟨tx.toArray⟩, .int .i64 ta, kv, mv, .int .i64 mo, .int .i64 bo] 90)).cell? ⟨B, 0, none⟩ = some (.int .i64 id) := (World.cell?_alloc_lt W _ _ hlt2).trans hc
  have HB := Lib.hid hb
  clear hb hc hB
  by_cases hi : i = id
  · subst hi
    simp only [decide_true]
    go_enter Tryz.func135, Tryz.ntmps135
    go_wp2
    go_ret
    exact ⟨rfl, HB.out.alloc HB.out.size _⟩
  · have e : (i == id) = false := by simpa using hi
    have e2 : decide (i = id) = false := decide_eq_false hi
    simp only [e2]
    clear e2 hi
    go_enter Tryz.func135, Tryz.ntmps135
    go_wp2
    go_ret
    exact ⟨rfl, HB.out.alloc HB.out.size _⟩

/-- The place of a mailbox. -/
theorem box_any (g : Nat) (v : Value) (S : List Nat) (l : List BoxP) (id : Int) (w : World) (hg : w.cell? ⟨g, 10, none⟩ = some v) (hr : RdS w S 6 v l.length (flatG encB l)) (hn : l.length ≤ 1099511627776) :
    Calls Tryz.prog 128 #[.pointer (some ⟨g, 0, none⟩), .int .i64 id] w fun e w' => e = .returned (.int .i64 (boxOf id l)) ∧ Below w.heap.size w w' := by
  have hgl := World.block_lt_of_cell? _ _ hg
  have hw1 : (w.alloc (.cells #[.int .i64 id] 3)).cell? ⟨w.heap.size, 0, none⟩ = some (.int .i64 id) := (World.cell?_alloc_at _ _ _ _ rfl).trans rfl
  have hg1 : (w.alloc (.cells #[.int .i64 id] 3)).cell? ⟨g, 10, none⟩ = some v := (World.cell?_alloc_lt w _ _ hgl).trans hg
  have eg : ∀ args W, (callFunc 178 args).run Tryz.prog W = .ok (.enter 178 args) W := enters_of Tryz.func178 (by kernel_rfl) rfl
  have hc := idxB_any v S l (fun b => decide (b.id = id)) 178 #[.pointer (some ⟨w.heap.size, 0, none⟩)] eg (w.alloc (.cells #[.int .i64 id] 3)) (hr.below ((Below.refl _ w).alloc (Nat.le_refl _) _)) hn
    (fun W hb x _ => boxPred_any id _ _ W x hw1 hb)
  have hc2 : Calls Tryz.prog 94 #[v, .func (.func 178) #[] #[.pointer (some ⟨w.heap.size, 0, none⟩)]] (w.alloc (.cells #[.int .i64 id] 3)) fun e w' => e = .returned (.int .i64 (boxOf id l)) ∧ Below (w.alloc (.cells #[.int .i64 id] 3)).heap.size (w.alloc (.cells #[.int .i64 id] 3)) w' := hc
  generalize boxOf id l = r at hc2
  clear hc eg hr hw1 hg hn
  go_enter Tryz.func128, Tryz.ntmps128
  go_wp2_with (first
    | (go_at_call 94; refine hc2.mono ?_; rintro e w2 ⟨rfl, hb⟩)
    | fail)
  go_ret
  exact ⟨rfl, ((Below.refl _ _).alloc (Nat.le_refl _) _).trans (hb.mono (by simp))⟩

/-- The place of an email. -/
theorem mail_any (g : Nat) (v : Value) (S : List Nat) (l : List MailM) (id : Int) (w : World) (hg : w.cell? ⟨g, 11, none⟩ = some v) (hr : RdS w S 8 v l.length (flatG encM l)) (hn : l.length ≤ 1099511627776) :
    Calls Tryz.prog 71 #[.pointer (some ⟨g, 0, none⟩), .int .i64 id] w fun e w' => e = .returned (.int .i64 (place (fun m => decide (m.p.id = id)) l)) ∧ Below w.heap.size w w' := by
  have hgl := World.block_lt_of_cell? _ _ hg
  have hw1 : (w.alloc (.cells #[.int .i64 id] 3)).cell? ⟨w.heap.size, 0, none⟩ = some (.int .i64 id) := (World.cell?_alloc_at _ _ _ _ rfl).trans rfl
  have hg1 : (w.alloc (.cells #[.int .i64 id] 3)).cell? ⟨g, 11, none⟩ = some v := (World.cell?_alloc_lt w _ _ hgl).trans hg
  have eg : ∀ args W, (callFunc 135 args).run Tryz.prog W = .ok (.enter 135 args) W := enters_of Tryz.func135 (by kernel_rfl) rfl
  have hc := idxM_any v S l (fun m => decide (m.p.id = id)) 135 #[.pointer (some ⟨w.heap.size, 0, none⟩)] eg (w.alloc (.cells #[.int .i64 id] 3)) (hr.below ((Below.refl _ w).alloc (Nat.le_refl _) _)) hn
    (fun W hb x _ => mailPred_any id _ _ W x hw1 hb)
  generalize place (fun m : MailM => decide (m.p.id = id)) l = r at hc
  clear eg hr hw1 hg hn
  go_enter Tryz.func71, Tryz.ntmps71
  go_wp2_with (first
    | (go_at_call 134; refine hc.mono ?_; rintro e w2 ⟨rfl, hb⟩)
    | fail)
  go_ret
  exact ⟨rfl, ((Below.refl _ _).alloc (Nat.le_refl _) _).trans (hb.mono (by simp))⟩

end Go.Proofs.YtgkfknbhkonfdaaGreatDoor

namespace Go.Proofs.YtgkfknbhkonfdaaGreatDoor
open Go.Shelf Go.RowKit Go.Lib
attribute [local go_sem ↓] Go.wp_at_zero Go.wp_at_succ

theorem box_at : ∀ {l : List BoxP} {id : Int}, id ∈ ids l → ∃ k, ∃ hk : k < l.length, boxOf id l = (k : Int) ∧ l[k].id = id ∧ nextOf l id = l[k].next ∧ (∀ f, setBox id f l = l.set k (f l[k])) ∧ l.find? (fun b => decide (b.id = id)) = some l[k]
  | [], id, h => by simp [ids] at h
  | b :: r, id, h => by
    by_cases hb : b.id = id
    · exact ⟨0, by simp, by simp [boxOf, place, hb], hb, by simp [nextOf, hb], fun f => by simp [setBox, hb], by simp [hb]⟩
    · have h' : id ∈ ids r := by
        simp only [ids, List.map_cons, List.mem_cons] at h
        rcases h with h | h
        · exact absurd h.symm hb
        · exact h
      obtain ⟨k, hk, h1, h2, h3, h4, h5⟩ := box_at h'
      refine ⟨k + 1, by simpa using hk, ?_, h2, ?_, fun f => ?_, ?_⟩
      · have h1' : place (fun b : BoxP => decide (b.id = id)) r = k := h1
        have hb' : ¬ decide (b.id = id) = true := by simpa using hb
        unfold boxOf place
        rw [if_neg hb', h1', if_neg (by omega)]
        omega
      · rw [List.getElem_cons_succ, ← h3]
        simp [nextOf, hb]
      · simp only [setBox, if_neg hb, h4 f, List.set_cons_succ, List.getElem_cons_succ]
      · rw [List.find?_cons_of_neg (by simpa using hb)]
        exact h5

section
variable {w w' : World} {g : Nat} {q : Lies} {x : Acc}
/-- The mailboxes' own block turned. -/
theorem StoreAt.boxesTo (h : StoreAt w g q x) (bs : List BoxP) (hc : Chg q.hb.toList w w') (hs : Sl w' 80 6 q.vb q.hb bs.length (flatG encB bs)) : Turned w w' g q { x with boxes := bs } q := by
  have ha := h.apart
  have hco : Chg (q.own g) w w' := hc.mono fun k hk => .inl (Lies.own_hb (by simpa using hk))
  refine ⟨⟨?_, ?_, hs, h.same, ?_, fun m hmm => (h.parts m hmm).step hco (fun k hk => .inl hk)⟩, hco, fun k hk => .inl hk⟩
  · exact h.blk.chg hc (by simpa using ha.hb)
  · exact h.log.chg hc (by simpa using ha.lb) (fun b hb => by simpa using ha.eb b hb)
  · exact h.mails.chg hc (fun b hb => by
      simp only [Option.mem_toList]
      exact fun e => ha.bm b e hb)
theorem below_alloc1 (w : World) (o : Obj) : Below w.heap.size w (w.alloc o) := (Below.refl _ w).alloc (Nat.le_refl _) o
theorem below_drew1 (w : World) : Below w.heap.size w w.drew := ⟨rfl, rfl, rfl, Nat.le_refl _, fun _ _ => rfl⟩
theorem below_drop {B : Nat} {w w' : World} (h : Below B w.drew w') : Below B w w' := ⟨h.os, h.tape, h.output, h.size, h.block⟩
theorem below_then {w w1 w2 : World} (h : Below w.heap.size w w1) (h2 : Below w1.heap.size w1 w2) : Below w.heap.size w w2 := h.trans (h2.mono h.size)
theorem below_frozen {w w' : World} (h : Below w.heap.size w w') {p : Addr} (hp : p.block < w.heap.size) : w'.frozen? p = w.frozen? p := World.frozen?_of_block (h.block p.block hp)
theorem cell_heap {W : World} (he : W.heap = w.heap) (p : Addr) : W.cell? p = w.cell? p := World.cell?_of_block (by rw [he])
end

theorem spent_any (w : World) (g : Nat) (q : Lies) (x : Acc) (h : StoreAt w g q x) (hn : x.boxes.length ≤ 1099511627776) (id : Int) (hid : id ∈ ids x.boxes) :
    Calls Tryz.prog 65 #[.pointer (some ⟨g, 0, none⟩), .int .i64 id] w fun e w' => e = .returned (.bool (x.spent id)) ∧ Below w.heap.size w w' := by
  obtain ⟨k, hk, e1, _, e3, _, _⟩ := box_at hid
  obtain ⟨b, off, cap, hv, hhb, hnc, hcm, hlt, hat⟩ := h.boxAt k hk
  have c10 : w.cell? ⟨g, 10, none⟩ = some (.slice (some ⟨b, off, none⟩) x.boxes.length cap) := h.cell10.trans (by rw [hv])
  have c5 : w.cell? ⟨g, 5, none⟩ = some (.int .i64 x.cfg.maxUid) := h.cells 5
  have cn : w.cell? ⟨b, off + k * 6 + 4, none⟩ = some (.int .i64 x.boxes[k].next) := (hat 4 (by omega)).1
  have hbx := fun W (he : W.heap = w.heap) => box_any g q.vb [] x.boxes id W ((cell_heap he _).trans h.cell10) ((h.boxes.heap he).reads [] (by simp)) hn
  rw [e1] at hbx
  have hsp : x.spent id = decide (x.cfg.maxUid < x.boxes[k].next) := by
    unfold Acc.spent
    rw [e3]
  have hgl := h.blk.lt
  rw [hsp]
  obtain ⟨nx, hnx⟩ : ∃ nx, x.boxes[k].next = nx := ⟨_, rfl⟩
  rw [hnx] at cn ⊢
  obtain ⟨n, hnn⟩ : ∃ n, x.boxes.length = n := ⟨_, rfl⟩
  rw [hnn] at c10 hnc
  obtain ⟨mu, hmu⟩ : ∃ mu, x.cfg.maxUid = mu := ⟨_, rfl⟩
  rw [hmu] at c5 ⊢
  have hk1 : (k : Int) < (n : Int) := by omega
  have hk2 : k < n := by omega
  clear hsp e1 e3 hat hv hhb hn hid h hnx hmu hnn
  go_enter Tryz.func65, Tryz.ntmps65
  go_wp2_with fail
  go_region_with (first
    | (go_at_call 128; refine (hbx _ (by rfl)).mono ?_; rintro e w3 ⟨rfl, hb3⟩; have k10 := (hb3.cell (p := ⟨g, 10, none⟩) hgl).trans c10; have k5 := (hb3.cell (p := ⟨g, 5, none⟩) hgl).trans c5; have k4 := (hb3.cell (p := ⟨b, off + k * 6 + 4, none⟩) hlt).trans cn; have HB3 := Lib.hid (below_drop hb3); clear hb3)
    | fail)
  all_goals
    go_wp2
    go_ret
    exact ⟨rfl, HB3.out⟩

theorem number_any (w : World) (g : Nat) (q : Lies) (x : Acc) (h : StoreAt w g q x) (hn : x.boxes.length ≤ 1099511627776) (id : Int) (hid : id ∈ ids x.boxes) (hnx1 : 0 ≤ nextOf x.boxes id ∧ nextOf x.boxes id ≤ 4294967296) :
    Calls Tryz.prog 68 #[.pointer (some ⟨g, 0, none⟩), .int .i64 id] w fun e w' => e = .returned (.agg #[.int .i64 id, .int .i64 (nextOf x.boxes id)]) ∧ Turned w w' g q { x with boxes := bump id x.boxes } q := by
  obtain ⟨k, hk, e1, _, e3, e4, _⟩ := box_at hid
  obtain ⟨b, off, cap, hv, hhb, hnc, hcm, hlt, hat⟩ := h.boxAt k hk
  have c10 : w.cell? ⟨g, 10, none⟩ = some (.slice (some ⟨b, off, none⟩) x.boxes.length cap) := h.cell10.trans (by rw [hv])
  obtain ⟨cn, cf⟩ := hat 4 (by omega)
  have cn : w.cell? ⟨b, off + k * 6 + 4, none⟩ = some (.int .i64 x.boxes[k].next) := cn
  have hbx := fun W (hb : Below w.heap.size w W) => box_any g q.vb [] x.boxes id W ((hb.cell h.blk.lt).trans h.cell10) ((h.boxes.keep (fun b hb2 => hb.block b (h.boxes.lt b hb2))).reads [] (by simp)) hn
  rw [e1] at hbx
  have hgl := h.blk.lt
  have hend : ∀ W nx, x.boxes[k].next = nx → Below w.heap.size w W → ∀ u1 u2, Turned w (((W.setCell ⟨b, off + k * 6 + 4, none⟩ (.int .i64 (nx + 1))).setCell ⟨w.heap.size, 0, none⟩ u1).setCell ⟨w.heap.size, 1, none⟩ u2) g q { x with boxes := bump id x.boxes } q := by
    rintro W nx rfl hb u1 u2
    refine h.boxesTo _ ?_ ?_
    · rw [hhb]
      exact (((Chg.of_below hb [b]).set (.inl (by simp)) _).set (.inr (Nat.le_refl _)) _).set (.inr (Nat.le_refl _)) _
    · have hb1 := h.boxes.keep (w' := W) (fun b hb2 => hb.block b (h.boxes.lt b hb2))
      rw [hv] at hb1
      have hb2 := hb1.store (k * 6 + 4) (.int .i64 (x.boxes[k].next + 1))
      rw [flatG_set encB_length x.boxes k 4 hk (by omega) _ { x.boxes[k] with next := x.boxes[k].next + 1 } rfl, ← Nat.add_assoc, ← hv] at hb2
      have hfar : q.hb ≠ some w.heap.size := fun e => by
        rw [hhb] at e
        injection e with e
        omega
      have hb3 := (hb2.far (p := ⟨w.heap.size, 0, none⟩) hfar u1).far (p := ⟨w.heap.size, 1, none⟩) hfar u2
      have hbm : bump id x.boxes = x.boxes.set k { x.boxes[k] with next := x.boxes[k].next + 1 } := e4 _
      rw [hbm, List.length_set]
      exact hb3
  rw [e3] at hnx1 ⊢
  obtain ⟨nx, hnx⟩ : ∃ nx, x.boxes[k].next = nx := ⟨_, rfl⟩
  have hend2 := fun W => hend W nx hnx
  rw [hnx] at cn hnx1 ⊢
  obtain ⟨n, hnn⟩ : ∃ n, x.boxes.length = n := ⟨_, rfl⟩
  rw [hnn] at c10 hnc
  have hk1 : (k : Int) < (n : Int) := by omega
  have hk2 : k < n := by omega
  obtain ⟨hx0, hx1⟩ := hnx1
  have hs1 : -9223372036854775808 ≤ nx + 1 := by omega
  have hs2 : nx + 1 ≤ 9223372036854775807 := by omega
  have hs3 : nx + 1 - 1 = nx := by omega
  have HE := Lib.hid hend2
  clear hend hend2 e1 e3 e4 hat hv hhb hn hid h hnx hnn
  go_enter Tryz.func68, Tryz.ntmps68
  go_wp2_with fail
  have d10 := (World.cell?_alloc_lt w (.cells #[.int .i64 0, .int .i64 0] 138) ⟨g, 10, none⟩ hgl).trans c10
  go_region_with (first
    | (go_at_call 128; refine (hbx _ (below_then (below_alloc1 w _) (below_drew1 _))).mono ?_; rintro e w3 ⟨rfl, hb3⟩; have hb5 := below_drop hb3; have hb6 := below_then (below_alloc1 w _) hb5; have hk0 := (Blk.new w 138 #[.int .i64 0, .int .i64 0]).below hb5 (by simp); have r0 : w3.cell? ⟨w.heap.size, 0, none⟩ = some (.int .i64 0) := hk0.cell 0; have r1 : w3.cell? ⟨w.heap.size, 1, none⟩ = some (.int .i64 0) := hk0.cell 1; have HK := Lib.hid hk0; have f0 := hk0.frozen 0; have f1 := hk0.frozen 1; have k4 := (hb6.cell (p := ⟨b, off + k * 6 + 4, none⟩) hlt).trans cn; have k10 := (hb6.cell (p := ⟨g, 10, none⟩) hgl).trans c10; have kf := (below_frozen hb6 (p := ⟨b, off + k * 6 + 4, none⟩) hlt).trans cf; have HB6 := Lib.hid hb6; clear hb3 hb5 hb6 hk0)
    | fail)
  all_goals
    have hne : b ≠ w.heap.size := by omega
    go_wp2
    refine bodyPost_ret (v := .agg #[.int .i64 id, .int .i64 nx]) ?_ rfl ⟨rfl, HE.out _ HB6.out _ _⟩
    have hz := ((HK.out.far (p := ⟨b, off + k * 6 + 4, none⟩) (fun e => hne e.symm) (.int .i64 (nx + 1))).set 0 (.int .i64 id)).set 1 (.int .i64 nx)
    have z0 := hz.cell 0
    have z1 := hz.cell 1
    simp at z0 z1
    simp [results, Tryz.results68, go_sem, z0, z1]

end Go.Proofs.YtgkfknbhkonfdaaGreatDoor

namespace Go.Proofs.YtgkfknbhkonfdaaGreatDoor
open Go.Shelf Go.RowKit Go.Lib
attribute [local go_sem ↓] Go.wp_at_zero Go.wp_at_succ

theorem setBox_ids (id : Int) (f : BoxP → BoxP) (hf : ∀ b, (f b).id = b.id) : ∀ l, ids (setBox id f l) = ids l
  | [] => rfl
  | b :: r => by
    unfold setBox
    split
    · simp [ids, hf]
    · have := setBox_ids id f hf r
      simp only [ids, List.map_cons] at this ⊢
      rw [this]
theorem turnBoxes_ids (mod : Int) : ∀ (is : List Int) (l : List BoxP), ids (turnBoxes mod is l) = ids l
  | [], _ => rfl
  | i :: r, l => by
    have h1 : turnBoxes mod (i :: r) l = turnBoxes mod r (setBox i (fun b => { b with mod := mod }) l) := rfl
    rw [h1, turnBoxes_ids mod r, setBox_ids]
    intro b
    rfl
theorem turnBoxes_length (mod : Int) (is : List Int) (l : List BoxP) : (turnBoxes mod is l).length = l.length := by
  have := congrArg List.length (turnBoxes_ids mod is l)
  simpa [ids] using this
theorem turnBoxes_snoc (mod : Int) (is : List Int) (i : Int) (l : List BoxP) : turnBoxes mod (is ++ [i]) l = setBox i (fun b => { b with mod := mod }) (turnBoxes mod is l) := by
  simp [turnBoxes]
theorem turnEnts_snoc (mod : Int) (is : List Int) (i : Int) : turnEnts mod (is ++ [i]) = turnEnts mod is ++ [⟨mod, 1, i, 2⟩] := by
  simp [turnEnts]
theorem turnEnts_length (mod : Int) (is : List Int) : (turnEnts mod is).length = is.length := by simp [turnEnts]

/-- 's[:n:n]' of a slice of n. -/
theorem Sl.tight {w : World} {e : TypeId} {size n cap : Nat} {A : Option Addr} {h : Option Nat} {xs : List Value} (hs : Sl w e size (.slice A n cap) h n xs) : Sl w e size (.slice A n n) h n xs := by
  refine ⟨hs.1, ?_⟩
  rcases hs.2 with ⟨h1, hv, h2⟩ | ⟨b', off', cap', cur, hh, hv, hB, hnc, hcm, hcs, ht⟩
  · injection hv with hv1 _ hv3
    subst h2 hv1
    exact .inl ⟨h1, rfl, rfl⟩
  · injection hv with hv1 _ hv3
    subst hv1 hv3
    have hmul : n * size ≤ cap * size := Nat.mul_le_mul_right _ hnc
    exact .inr ⟨b', off', n, cur, hh, rfl, hB, Nat.le_refl _, by omega, by omega, ht⟩

/-- Where only what is new has turned behind it. -/
theorem Turned.newer {w W W2 : World} {g : Nat} {q : Lies} {x x1 : Acc} {S : List Nat} (h : Turned w W g q x1 q) (hw : StoreAt w g q x) (hc : Chg S W W2) (hS : ∀ k ∈ S, w.heap.size ≤ k) : Turned w W2 g q x1 q := by
  have hco : Chg (q.own g) w W2 := h.chg.trans hc fun i hi => .inr (hS i hi)
  have hno : ∀ k ∈ q.own g, k ∉ S := fun k hk hm => by
    have h1 := hw.lt k hk
    have h2 := hS k hm
    omega
  exact ⟨⟨h.at_.blk.chg hc (hno g Lies.own_g), h.at_.log.chg hc (hno _ Lies.own_gl) (fun b hb => hno b (Lies.own_hl hb)), h.at_.boxes.chg hc (fun b hb => hno b (Lies.own_hb hb)), h.at_.same, h.at_.mails.chg hc (fun b hb => hno b (Lies.own_hm hb)), fun m hm => (hw.parts m hm).step hco fun k hk => .inl hk⟩, hco, fun k hk => .inl hk⟩

/-- What the loop keeps: k mailboxes turned, k entries. -/
structure TurnRel (w wr : World) (g : Nat) (q : Lies) (x : Acc) (mod : Int) (l : List Int) (vc : Value) (hc : Option Nat) (k : Nat) (o : Value) : Prop where
  out : ∃ h, Sl wr 144 4 o h k (flatE (turnEnts mod (l.take k))) ∧ ∀ b, h = some b → w.heap.size ≤ b
  st : Turned w wr g q { x with boxes := turnBoxes mod (l.take k) x.boxes } q
  src : Sl wr 3 1 vc hc l.length (l.map encI)
  new : ∀ b, hc = some b → w.heap.size ≤ b

theorem TurnRel.box {w wr : World} {g : Nat} {q : Lies} {x : Acc} {mod : Int} {l : List Int} {vc : Value} {hc : Option Nat} {k : Nat} {o : Value} (h : TurnRel w wr g q x mod l vc hc k o) (hk : k < l.length) (hall : ∀ i ∈ l, i ∈ ids x.boxes) (hn : x.boxes.length ≤ 1099511627776) (hw : StoreAt w g q x) :
    ∃ (j b off cap : Nat), j < x.boxes.length ∧ wr.cell? ⟨g, 10, none⟩ = some (.slice (some ⟨b, off, none⟩) x.boxes.length cap) ∧ wr.frozen? ⟨b, off + j * 6 + 5, none⟩ = false ∧ (∃ u, wr.cell? ⟨b, off + j * 6 + 5, none⟩ = some u) ∧ g < wr.heap.size ∧ b < wr.heap.size ∧
      (∀ W, Below wr.heap.size wr W → Calls Tryz.prog 128 #[.pointer (some ⟨g, 0, none⟩), .int .i64 l[k]] W fun e w' => e = .returned (.int .i64 j) ∧ Below W.heap.size W w') ∧
      (∀ W, Below wr.heap.size wr W → Turned w (W.setCell ⟨b, off + j * 6 + 5, none⟩ (.int .i64 mod)) g q { x with boxes := turnBoxes mod (l.take (k + 1)) x.boxes } q ∧
        (∀ {e size v hh n xs}, Sl wr e size v hh n xs → (∀ b', hh = some b' → w.heap.size ≤ b') → Sl (W.setCell ⟨b, off + j * 6 + 5, none⟩ (.int .i64 mod)) e size v hh n xs)) := by
  have hst := h.st.at_
  have hid : l[k] ∈ ids (turnBoxes mod (l.take k) x.boxes) := by
    rw [turnBoxes_ids]
    exact hall _ (List.getElem_mem hk)
  obtain ⟨j, hj, e1, e2, e3, e4, _⟩ := box_at hid
  have hlen := turnBoxes_length mod (l.take k) x.boxes
  obtain ⟨b, off, cap, hv, hhb, hnc, hcm, hlt, hat⟩ := hst.boxAt j hj
  obtain ⟨c1, c2⟩ := hat 5 (by omega)
  refine ⟨j, b, off, cap, by omega, ?_, c2, ⟨_, c1⟩, hst.blk.lt, hlt, fun W hb => ?_, fun W hb => ⟨?_, fun {e size v hh n xs} hs hf => ?_⟩⟩
  · rw [hst.cell10, hv]
    simp only [hlen]
  · have hbx := box_any g q.vb [] _ l[k] W ((hb.cell hst.blk.lt).trans hst.cell10) ((hst.boxes.keep (fun b hb2 => hb.block b (hst.boxes.lt b hb2))).reads [] (by simp)) (by simp only [hlen]; exact hn)
    simp only [e1] at hbx
    exact hbx
  · have ht := (hst.later hb).setBoxCell hv j hj 5 (by omega) (.int .i64 mod) { (turnBoxes mod (l.take k) x.boxes)[j] with mod := mod } rfl
    have h2 := (h.st.trans (Turned.of_below hst hb)).trans ht
    have h3 : (turnBoxes mod (l.take k) x.boxes).set j { (turnBoxes mod (l.take k) x.boxes)[j] with mod := mod } = turnBoxes mod (l.take (k + 1)) x.boxes := by
      rw [List.take_succ_eq_append_getElem hk, turnBoxes_snoc]
      exact (e4 (fun b => { b with mod := mod })).symm
    rw [← h3]
    exact h2
  · have hs1 := hs.keep (w' := W) (fun b' hb' => hb.block b' (hs.lt b' hb'))
    refine hs1.far (p := ⟨b, off + j * 6 + 5, none⟩) (fun e => ?_) _
    have h5 := hf b e
    have h6 := hw.lt b (Lies.own_hb hhb)
    omega

theorem TurnRel.start {w w1 w2 w3 : World} {g : Nat} {q : Lies} {x : Acc} {mod : Int} {l : List Int} {v3 : Value} {h1 : Option Nat} (h : StoreAt w g q x) (hb1 : Below w.heap.size w w1) (ho1 : ∀ b, h1 = some b → w.heap.size ≤ b) (hc2 : Chg h1.toList w1 w2) (hc3 : Chg h1.toList w2 w3) (hs3 : Sl w3 3 1 v3 h1 l.length (l.map encI)) : TurnRel w w3 g q x mod l v3 h1 0 (.slice none 0 0) := by
  have hown : ∀ k ∈ h1.toList, w.heap.size ≤ k := fun k hk => ho1 k (by simpa using hk)
  have hb2 : Below w.heap.size w w2 := hb1.trans (hc2.below hb1.size hown)
  have hb3 : Below w.heap.size w w3 := hb2.trans (hc3.below hb2.size hown)
  exact ⟨⟨none, Sl.nil _ _ _, fun b hb => by cases hb⟩, Turned.of_below h hb3, hs3, ho1⟩
theorem TurnRel.next {w wr W W2 : World} {g : Nat} {q : Lies} {x : Acc} {mod : Int} {l : List Int} {vc : Value} {hc : Option Nat} {k : Nat} {o o2 : Value} {h1 h2 : Option Nat} (hR : TurnRel w wr g q x mod l vc hc k o) (hk : k < l.length)
    (ht : Turned w W g q { x with boxes := turnBoxes mod (l.take (k + 1)) x.boxes } q) (hsrc : Sl W 3 1 vc hc l.length (l.map encI)) (hf1 : ∀ b, h1 = some b → w.heap.size ≤ b) (hne : ∀ b, h1 = some b → hc ≠ some b)
    (hs2 : Sl W2 144 4 o2 h2 (k + 1) (flatE (turnEnts mod (l.take k)) ++ [.int .i64 mod, .int .i64 1, .int .i64 l[k], .int .i64 2])) (hc2 : Chg h1.toList W W2) (ho2 : h2 = h1 ∨ ∃ g, h2 = some g ∧ W.heap.size ≤ g) (hw : StoreAt w g q x) :
    TurnRel w W2 g q x mod l vc hc (k + 1) o2 := by
  have hsz := ht.chg.size
  refine ⟨⟨h2, ?_, fun b hb => ?_⟩, ?_, ?_, hR.new⟩
  · rw [List.take_succ_eq_append_getElem hk, turnEnts_snoc, flatE_append]
    exact hs2
  · rcases ho2 with h3 | ⟨g2, h3, h4⟩
    · exact hf1 b (by rw [← h3]; exact hb)
    · rw [h3] at hb
      injection hb with hb
      omega
  · exact ht.newer hw hc2 fun k hk => hf1 k (by simpa using hk)
  · exact hsrc.chg hc2 (fun b hb hm => hne b (by simpa using hm) hb)

set_option maxRecDepth 100000 in
set_option maxHeartbeats 2000000 in
theorem turned_any (w : World) (g : Nat) (q : Lies) (x : Acc) (h : StoreAt w g q x) (hn : x.boxes.length ≤ 1099511627776) (mod : Int) (is : List Int) (v : Value) (S : List Nat) (hr : RdS w S 1 v is.length (is.map encI)) (hin : is.length ≤ 1099511627776) (hall : ∀ i ∈ is, i ∈ ids x.boxes) :
    Calls Tryz.prog 70 #[.pointer (some ⟨g, 0, none⟩), .int .i64 mod, v] w fun e w' => ∃ v' hh, e = .returned v' ∧ Sl w' 144 4 v' hh (rise is).length (flatE (turnEnts mod (rise is))) ∧ (∀ b, hh = some b → w.heap.size ≤ b) ∧ Turned w w' g q { x with boxes := turnBoxes mod (rise is) x.boxes } q := by
  obtain ⟨i0, hi, hz0, hz1, hz2⟩ := info_parts Try.infoEntry
  have hcl := cloneI_any w v is S hr hin
  have hall2 : ∀ i ∈ rise is, i ∈ ids x.boxes := fun i hi => hall i ((mem_rise is i).1 hi)
  have hlen := rise_length is
  have hri := compact_sortI is
  generalize rise is = l at hall2 hlen hri ⊢
  obtain ⟨n, hnn⟩ : ∃ n, l.length = n := ⟨_, rfl⟩
  have HW := Lib.hid h
  have HALL := Lib.hid hall2
  clear hr hall hall2 h
  go_enter Tryz.func70, Tryz.ntmps70
  go_wp2_with (first
    | (go_at_call 100; refine hcl.mono ?_; rintro e w1 ⟨v1, h1, rfl, hs1, hb1, ho1⟩; have hso := sortI_any w1 v1 h1 is.length is hs1 (by omega); have HB1 := Lib.hid hb1; have HO1 := Lib.hid ho1; clear hcl hs1 hb1 ho1)
    | (go_at_call 125; refine hso.mono ?_; rintro e w2 ⟨rfl, hs2, hc2⟩; have hco := compactI_any w2 v1 h1 is.length (sortI is) hs2 (by omega); have HC2 := Lib.hid hc2; clear hso hs2 hc2)
    | (go_at_call 126; refine hco.mono ?_; rintro e w3 ⟨v3, rfl, hs3, hc3⟩; rw [hri] at hs3; have HT := Lib.hid (TurnRel.start (mod := mod) HW.out HB1.out HO1.out HC2.out hc3 hs3); obtain ⟨A3, cap3, rfl, _, _⟩ := hs3.form; clear hco hs3 hc3 HB1 HO1 HC2)
    | fail)
  rw [hnn] at HT
  go_loopw [8, 18] (fun o i wr => ∃ k : Nat, k ≤ n ∧ i = .int .i64 k ∧ Hid (TurnRel w wr g q x mod l (.slice A3 n cap3) h1 k o)) (fun _ i _ => n - (intOf i).toNat)
  case atStart => exact ⟨0, Nat.zero_le _, rfl, HT⟩
  case round =>
    obtain ⟨k, hk, rfl, HU⟩ := hrel
    by_cases hlt : k < n
    · have hkl : k < l.length := by omega
      obtain ⟨j, b, off, cap, hj, c10, cf, ⟨u0, cu⟩, hg, hb, hbx, hend⟩ := HU.out.box hkl HALL.out hn HW.out
      obtain ⟨b3, off3, cap3', _, hv3, _, _, hb3, hat3⟩ := HU.out.src.at_ (by omega)
      injection hv3 with hv1 hv2 hv3
      subst hv1 hv3
      clear hv2
      have cs : wr.cell? ⟨b3, off3 + k, none⟩ = some (.int .i64 l[k]) := by
        rw [(hat3 k (by omega)).1]
        simp [hkl]
      obtain ⟨h0, hs0, hf0⟩ := HU.out.out
      obtain ⟨A0, cap0, rfl, _, _⟩ := hs0.form
      have HE := Lib.hid hend
      have HS0 := Lib.hid hs0
      have HF0 := Lib.hid hf0
      obtain ⟨id, hid⟩ : ∃ id, l[k] = id := ⟨_, rfl⟩
      have HID := Lib.hid hid
      rw [hid] at cs hbx
      obtain ⟨nb, hnb⟩ : ∃ nb, x.boxes.length = nb := ⟨_, rfl⟩
      rw [hnb] at c10 hj
      have hj1 : (j : Int) < (nb : Int) := by omega
      clear hat3 hend hs0 hf0 hid hnb
      go_upto_region 7 with (fail)
      go_cut [10] (fun i wx => i = .int .i64 id ∧ Hid (Turned w wx g q { x with boxes := turnBoxes mod (l.take (k + 1)) x.boxes } q ∧ Sl wx 3 1 (.slice (some ⟨b3, off3, none⟩) n cap3) h1 l.length (l.map encI) ∧ Sl wx 144 4 (.slice A0 k cap0) h0 k (flatE (turnEnts mod (l.take k)))))
      case first =>
        go_region_with (first
          | (go_at_call 128; refine (hbx _ (below_drew1 _)).mono ?_; rintro e w4 ⟨rfl, hb4⟩; have hb5 := below_drop hb4; have k10 := (hb5.cell (p := ⟨g, 10, none⟩) hg).trans c10; have kf := (below_frozen hb5 (p := ⟨b, off + j * 6 + 5, none⟩) hb).trans cf; have ku := (hb5.cell (p := ⟨b, off + j * 6 + 5, none⟩) hb).trans cu; have HB5 := Lib.hid hb5; clear hb4 hb5)
          | fail)
        all_goals
          go_wp2_with fail
          go_meet
          exact ⟨rfl, Lib.hid ⟨(HE.out _ HB5.out).1, (HE.out _ HB5.out).2 HU.out.src HU.out.new, (HE.out _ HB5.out).2 HS0.out HF0.out⟩⟩
      case rest =>
        obtain ⟨rfl, HC⟩ := hcut
        obtain ⟨we, rfl⟩ : ∃ we : World, we = wc := ⟨_, rfl⟩
        go_wp2_with (first
          | (at_builtin; refine wpList_append_sl rfl _ _ 141 rfl Tryz.underlying141 hi hz0 hz1 hz2 rfl (by decide) HC.out.2.2 rfl 1 1 rfl rfl ?_ ?_ ?_ ?_))
        · simp [Value.oneCell']
        · unfold maxLen
          omega
        · omega
        · intro v2 h2 w5 hs5 hc5 ho5
          have HN : Hid (TurnRel w w5 g q x mod l (.slice (some ⟨b3, off3, none⟩) n cap3) h1 (k + 1) v2) := Lib.hid (by
            have hid := HID.out
            subst hid
            exact HU.out.next hkl HC.out.1 HC.out.2.1 HF0.out (fun b' hb' e => HC.out.2.1.ne_sl HC.out.2.2 (by decide) b' e hb') hs5 hc5 ho5 HW.out)
          clear hs5 hc5 ho5 HC
          go_wp2_with fail
          refine ⟨?_, by simp [intOf]; omega⟩
          first | exact ⟨k + 1, by omega, by go_num, HN⟩ | ((repeat apply Exists.intro); exact ⟨⟨k + 1, by omega, by go_num, HN⟩, rfl⟩)
    · have hkn : k = n := by omega
      subst hkn
      obtain ⟨h0, hs0, hf0⟩ := HU.out.out
      obtain ⟨A0, cap0, rfl, hnc0, hcm0⟩ := hs0.form
      rw [List.take_of_length_le (by omega)] at hs0
      have hst := HU.out.st
      rw [List.take_of_length_le (by omega)] at hst
      have hkk : (0 : Int) ≤ (k : Int) := by omega
      have hkc : (k : Int) ≤ (cap0 : Int) := by omega
      have HF := Lib.hid hf0
      have HS := Lib.hid hs0
      have HST := Lib.hid hst
      clear hs0 hst hf0 HU
      go_wp2_with fail
      go_ret
      refine ⟨_, h0, rfl, ?_, HF.out, HST.out⟩
      rw [hnn]
      exact HS.out.tight

end Go.Proofs.YtgkfknbhkonfdaaGreatDoor

namespace Go.Proofs.YtgkfknbhkonfdaaGreatDoor
open Go.Shelf Go.RowKit Go.Lib
attribute [local go_sem ↓] Go.wp_at_zero Go.wp_at_succ

theorem boxOf_neg (id : Int) (l : List BoxP) : decide (boxOf id l < 0) = !hasBox l id := by
  have h := any_place (fun b : BoxP => decide (b.id = id)) l
  have h2 : hasBox l id = decide (0 ≤ boxOf id l) := h
  rw [h2]
  by_cases hlt : boxOf id l < 0
  · rw [decide_eq_true hlt, decide_eq_false (by omega)]
    rfl
  · rw [decide_eq_false hlt, decide_eq_true (by omega)]
    rfl

theorem wantPred_any (w : World) (g : Nat) (q : Lies) (x : Acc) (h : StoreAt w g q x) (hn : x.boxes.length ≤ 1099511627776) (B : Nat) (hB : w.cell? ⟨B, 0, none⟩ = some (.pointer (some ⟨g, 0, none⟩))) (W : World) (hb : Below w.heap.size w W) (id : Int) :
    Calls Tryz.prog 127 (#[.int .i64 id] ++ #[.pointer (some ⟨B, 0, none⟩)]) W fun e w' => e = .returned (.bool (!hasBox x.boxes id)) ∧ Below w.heap.size w w' := by
  show Calls Tryz.prog 127 #[.int .i64 id, .pointer (some ⟨B, 0, none⟩)] W _
  have hlt := World.block_lt_of_cell? _ _ hB
  have hc := (hb.cell (p := ⟨B, 0, none⟩) hlt).trans hB
  have hst := h.later hb
  have hbx := box_any g q.vb [] x.boxes id W hst.cell10 (hst.boxes.reads [] (by simp)) hn
  rw [← boxOf_neg]
  generalize boxOf id x.boxes = r at hbx
  have HB := Lib.hid hb
  clear hB hst h hb
  go_enter Tryz.func127, Tryz.ntmps127
  go_wp2_with (first
    | (go_at_call 128; refine hbx.mono ?_; rintro e w3 ⟨rfl, hb3⟩)
    | fail)
  go_ret
  exact ⟨rfl, below_then HB.out hb3⟩

set_option maxHeartbeats 1000000 in
theorem wanted_any (w : World) (g : Nat) (q : Lies) (x : Acc) (h : StoreAt w g q x) (hn : x.boxes.length ≤ 1099511627776) (is : List Int) (v : Value) (S : List Nat) (hr : RdS w S 1 v is.length (is.map encI)) (hin : is.length ≤ 1099511627776) :
    Calls Tryz.prog 62 #[.pointer (some ⟨g, 0, none⟩), v] w fun e w' => ∃ v' hh, e = .returned (.tuple #[v', .bool (!(rise is).any (fun id => !hasBox x.boxes id))]) ∧ Sl w' 3 1 v' hh (rise is).length ((rise is).map encI) ∧ (∀ b, hh = some b → w.heap.size ≤ b) ∧ Below w.heap.size w w' := by
  have hb0 := below_alloc1 w (.cells #[.pointer (some ⟨g, 0, none⟩)] 26)
  have hcl := cloneI_any (w.alloc (.cells #[.pointer (some ⟨g, 0, none⟩)] 26)) v is S (hr.below hb0) hin
  have hw1 : (w.alloc (.cells #[.pointer (some ⟨g, 0, none⟩)] 26)).cell? ⟨w.heap.size, 0, none⟩ = some (.pointer (some ⟨g, 0, none⟩)) := (World.cell?_alloc_at _ _ _ _ rfl).trans rfl
  have hlen := rise_length is
  have hri := compact_sortI is
  generalize rise is = l at hlen hri ⊢
  have eg : ∀ args W, (callFunc 127 args).run Tryz.prog W = .ok (.enter 127 args) W := enters_of Tryz.func127 (by kernel_rfl) rfl
  have hcf : ∀ (w3 : World) v3 h3, Below (w.alloc (.cells #[.pointer (some ⟨g, 0, none⟩)] 26)).heap.size (w.alloc (.cells #[.pointer (some ⟨g, 0, none⟩)] 26)) w3 → Sl w3 3 1 v3 h3 l.length (l.map encI) →
      Calls Tryz.prog 64 #[v3, .func (.func 127) #[] #[.pointer (some ⟨w.heap.size, 0, none⟩)]] w3 fun e w' => e = .returned (.bool (l.any fun id => !hasBox x.boxes id)) ∧ Below w3.heap.size w3 w' := fun w3 v3 h3 hb3 hs3 =>
    hasI_any v3 [] l (fun id => !hasBox x.boxes id) _ _ eg w3 (hs3.reads [] (by simp)) (by omega) (fun W hb id _ => wantPred_any w3 g q x (h.later (below_then hb0 hb3)) hn _ ((hb3.cell (by simp)).trans hw1) W hb id)
  generalize (l.any fun id => !hasBox x.boxes id) = ans at hcf
  have HB0 := Lib.hid hb0
  have HCF := Lib.hid hcf
  clear hr hb0 hw1 eg hcf h
  go_enter Tryz.func62, Tryz.ntmps62
  go_wp2_with (first
    | (go_at_call 100; refine hcl.mono ?_; rintro e w1 ⟨v1, h1, rfl, hs1, hb1, ho1⟩; have hso := sortI_any w1 v1 h1 is.length is hs1 (by omega); have HB1 := Lib.hid hb1; have HO1 := Lib.hid ho1; clear hcl hs1 hb1 ho1)
    | (go_at_call 125; refine hso.mono ?_; rintro e w2 ⟨rfl, hs2, hc2⟩; have hco := compactI_any w2 v1 h1 is.length (sortI is) hs2 (by omega); have HB2 := Lib.hid (HB1.out.trans (hc2.below HB1.out.size (fun k hk => HO1.out k (by simpa using hk)))); clear hso hs2 hc2)
    | (go_at_call 126; refine hco.mono ?_; rintro e w3 ⟨v3, rfl, hs3, hc3⟩; rw [hri] at hs3; have hb3 := HB2.out.trans (hc3.below HB2.out.size (fun k hk => HO1.out k (by simpa using hk))); have hcf := HCF.out w3 v3 h1 hb3 hs3; have HS3 := Lib.hid hs3; have HB3 := Lib.hid hb3; clear hco hs3 hc3 hb3)
    | (go_at_call 64; refine hcf.mono ?_; rintro e w4 ⟨rfl, hb4⟩; have HB4 := Lib.hid hb4; clear hb4 hcf)
    | fail)
  go_ret2
  exact ⟨v3, h1, rfl, HS3.out.keep (fun b hb => HB4.out.block b (HS3.out.lt b hb)), fun b hb => Nat.le_trans HB0.out.size (HO1.out b hb), below_then (below_then HB0.out HB3.out) HB4.out⟩

end Go.Proofs.YtgkfknbhkonfdaaGreatDoor

namespace Go.Proofs.YtgkfknbhkonfdaaGreatDoor
open Go.RowKit
attribute [local go_sem ↓] Go.wp_at_zero Go.wp_at_succ

theorem atomAdd_any (g o : Nat) (x y : Int) (w : World) (hc : w.cell? ⟨g, o, none⟩ = some (.int .i64 x)) (hf : w.frozen? ⟨g, o, none⟩ = false) (hs : -9223372036854775808 ≤ x + y ∧ x + y ≤ 9223372036854775807) :
    Calls Tryz.prog 130 #[.pointer (some ⟨g, o, none⟩), .int .i64 y] w fun e w' => e = .returned (.int .i64 (x + y)) ∧ w' = w.setCell ⟨g, o, none⟩ (.int .i64 (x + y)) := by
  have hw : IntKind.i64.wrap (x + y) = x + y := IntWalk.i64_in _ hs
  have h1 := run_call_add (P := Tryz.prog) (f := 179) Tryz.func179 rfl rfl rfl .i64 rfl (a := ⟨g, o, none⟩) (x := x) (y := y) (s := x + y) (w := w) hc hf (by simp [Op.intArith, hw])
  go_enter Tryz.func130, Tryz.ntmps130
  go_wp2
  go_ret
  exact ⟨rfl, rfl⟩
theorem atomLoad_any (g o : Nat) (x : Int) (w : World) (hc : w.cell? ⟨g, o, none⟩ = some (.int .i64 x)) :
    Calls Tryz.prog 53 #[.pointer (some ⟨g, o, none⟩)] w fun e w' => e = .returned (.int .i64 x) ∧ w = w' := by
  have h1 := run_call_load (P := Tryz.prog) (f := 115) Tryz.func115 rfl rfl rfl .i64 rfl (a := ⟨g, o, none⟩) (x := x) (w := w) hc
  go_enter Tryz.func53, Tryz.ntmps53
  go_wp2
  go_ret
  exact ⟨rfl, rfl⟩
theorem clock_any (g : Nat) (x : Int) (w : World) (hc : w.cell? ⟨g, 9, none⟩ = some (.int .i64 x)) :
    Calls Tryz.prog 25 #[.pointer (some ⟨g, 0, none⟩)] w fun e w' => e = .returned (.int .i64 x) ∧ w = w' := by
  have hl := atomLoad_any g 9 x w hc
  go_enter Tryz.func25, Tryz.ntmps25
  go_wp2_with (first
    | (go_at_call 53; refine hl.mono ?_; rintro e w' ⟨rfl, rfl⟩)
    | fail)
  go_ret
  exact ⟨rfl, rfl⟩

theorem step_any (g : Nat) (x : Int) (w : World) (hc : w.cell? ⟨g, 9, none⟩ = some (.int .i64 x)) (hf : w.frozen? ⟨g, 9, none⟩ = false) (hx : 0 ≤ x ∧ x ≤ 4294967296) :
    Calls Tryz.prog 66 #[.pointer (some ⟨g, 0, none⟩)] w fun e w' => e = .returned (.int .i64 (x + 1)) ∧ w' = w.setCell ⟨g, 9, none⟩ (.int .i64 (x + 1)) := by
  have ha := atomAdd_any g 9 x 1 w hc hf (by omega)
  go_enter Tryz.func66, Tryz.ntmps66
  go_wp2_with (first
    | (go_at_call 130; refine ha.mono ?_; rintro e w' ⟨rfl, rfl⟩)
    | fail)
  go_ret
  exact ⟨rfl, rfl⟩

theorem ends_any (g : Nat) (x m : Int) (w : World) (hc : w.cell? ⟨g, 9, none⟩ = some (.int .i64 x)) (hm : w.cell? ⟨g, 6, none⟩ = some (.int .i64 m)) :
    Calls Tryz.prog 63 #[.pointer (some ⟨g, 0, none⟩)] w fun e w' => e = .returned (.bool (decide (m ≤ x))) ∧ ∃ n, w' = w.drewN n := by
  have hcl := fun W (h : W.heap = w.heap) => clock_any g x W (by rw [show W.cell? ⟨g, 9, none⟩ = w.cell? ⟨g, 9, none⟩ from World.cell?_of_block (by rw [h])]; exact hc)
  go_enter Tryz.func63, Tryz.ntmps63
  go_wp2_with fail
  go_region_with (first
    | (go_at_call 25; refine (hcl _ (by rfl)).mono ?_; rintro e w3 ⟨rfl, rfl⟩)
    | fail)
  all_goals
    go_wp2
    go_ret
    exact ⟨rfl, 1, rfl⟩

end Go.Proofs.YtgkfknbhkonfdaaGreatDoor

namespace Go.Proofs.YtgkfknbhkonfdaaGreatDoor
open Go.Shelf Go.RowKit Go.Lib
attribute [local go_sem ↓] Go.wp_at_zero Go.wp_at_succ

theorem atomStore_any (g o : Nat) (x y : Int) (w : World) (hc : w.cell? ⟨g, o, none⟩ = some (.int .i64 x)) (hf : w.frozen? ⟨g, o, none⟩ = false) :
    Calls Tryz.prog 54 #[.pointer (some ⟨g, o, none⟩), .int .i64 y] w fun e w' => e = .returned (.tuple #[]) ∧ w' = w.setCell ⟨g, o, none⟩ (.int .i64 y) := by
  have h1 := run_call_store (P := Tryz.prog) (f := 116) Tryz.func116 rfl rfl rfl rfl (a := ⟨g, o, none⟩) (k := .i64) (y := y) (u := .int .i64 x) (w := w) hc hf
  go_enter Tryz.func54, Tryz.ntmps54
  go_wp2
  go_end0
  exact ⟨rfl, rfl⟩

theorem atomU_any (w : World) : Calls Tryz.prog 91 #[.string ⟨#[117]⟩] w fun e w' => e = .returned (.bool true) ∧ w = w' := by
  have h := atom_any ⟨#[117]⟩ w (by decide)
  rw [show atomL (⟨#[117]⟩ : ByteArray).data.toList = true from by decide] at h
  exact h
theorem atomP_any (w : World) : Calls Tryz.prog 91 #[.string ⟨#[112]⟩] w fun e w' => e = .returned (.bool true) ∧ w = w' := by
  have h := atom_any ⟨#[112]⟩ w (by decide)
  rw [show atomL (⟨#[112]⟩ : ByteArray).data.toList = true from by decide] at h
  exact h

theorem blk_new2 (w : World) (o : Obj) (t : TypeId) (cs : Array Value) : Blk ((w.alloc o).alloc (.cells cs t)) (w.heap.size + 1) t cs := by
  have h := Blk.new (w.alloc o) t cs
  rw [show (w.alloc o).heap.size = w.heap.size + 1 from by simp] at h
  exact h
def cfgN (m1 m2 m3 m4 m5 m6 m7 : Int) : CfgP := ⟨[117], [112], m1, m2, m3, m4, m5, m6, m7⟩
def lim (m : Int) : Prop := 1 ≤ m ∧ m ≤ 2147483647

set_option maxRecDepth 100000 in
set_option maxHeartbeats 2000000 in
theorem newA_any (m1 m2 m3 m4 m5 m6 m7 : Int) (h1 : lim m1) (h2 : lim m2) (h3 : lim m3) (h4 : lim m4) (h5 : lim m5) (h6 : lim m6) (h7 : lim m7) (w : World) :
    Calls Tryz.prog 35 #[.agg #[.string ⟨#[117]⟩, .string ⟨#[112]⟩, .int .i64 m1, .int .i64 m2, .int .i64 m3, .int .i64 m4, .int .i64 m5, .int .i64 m6, .int .i64 m7]] w fun e w' => ∃ g q, e = .returned (.tuple #[.pointer (some ⟨g, 0, none⟩), .int .i64 0]) ∧ OwnStore w w' g q (newP (cfgN m1 m2 m3 m4 m5 m6 m7)) := by
  have hU := fun W => atomU_any W
  have hP := fun W => atomP_any W
  have hL := fun W => new_ok m6 W (by unfold lim at h6; omega)
  have hcells : ∀ k, k < 7 → ∃ m, lim m ∧ ((w.alloc (.cells #[.string ⟨#[117]⟩, .string ⟨#[112]⟩, .int .i64 m1, .int .i64 m2, .int .i64 m3, .int .i64 m4, .int .i64 m5, .int .i64 m6, .int .i64 m7] 73)).alloc (.cells #[.int .i64 m1, .int .i64 m2, .int .i64 m3, .int .i64 m4, .int .i64 m5, .int .i64 m6, .int .i64 m7] 3)).cell? ⟨w.heap.size + 1, k, none⟩ = some (.int .i64 m) := by
    intro k hk
    have hB := Blk.new (w.alloc (.cells #[.string ⟨#[117]⟩, .string ⟨#[112]⟩, .int .i64 m1, .int .i64 m2, .int .i64 m3, .int .i64 m4, .int .i64 m5, .int .i64 m6, .int .i64 m7] 73)) 3 #[.int .i64 m1, .int .i64 m2, .int .i64 m3, .int .i64 m4, .int .i64 m5, .int .i64 m6, .int .i64 m7]
    have hc := hB.cell k
    rw [show (w.alloc (.cells #[.string ⟨#[117]⟩, .string ⟨#[112]⟩, .int .i64 m1, .int .i64 m2, .int .i64 m3, .int .i64 m4, .int .i64 m5, .int .i64 m6, .int .i64 m7] 73)).heap.size = w.heap.size + 1 from by simp] at hc
    rw [hc]
    rcases k with _ | _ | _ | _ | _ | _ | _ | k
    · exact ⟨m1, h1, rfl⟩
    · exact ⟨m2, h2, rfl⟩
    · exact ⟨m3, h3, rfl⟩
    · exact ⟨m4, h4, rfl⟩
    · exact ⟨m5, h5, rfl⟩
    · exact ⟨m6, h6, rfl⟩
    · exact ⟨m7, h7, rfl⟩
    · omega
  have HC := Lib.hid hcells
  clear hcells h1 h2 h3 h4 h5 h6 h7
  go_enter Tryz.func35, Tryz.ntmps35
  go_wp2_with (first
    | (go_at_call 91; (with_reducible refine (hU _).mono ?_); rintro e w1 ⟨rfl, rfl⟩; clear hU)
    | (go_at_call 91; (with_reducible refine (hP _).mono ?_); rintro e w1 ⟨rfl, rfl⟩; clear hP)
    | fail)
  go_loop [35] (fun i => ∃ k : Nat, k ≤ 7 ∧ i = .int .i64 k) (fun i => 7 - (intOf i).toNat)
  case atStart => exact ⟨0, Nat.zero_le _, rfl⟩
  case round =>
    obtain ⟨k, hk, rfl⟩ := hrel
    by_cases hlt : k < 7
    · obtain ⟨m, ⟨hm1, hm2⟩, hc⟩ := HC.out k hlt
      have hk1 : (k : Int) < 7 := by omega
      have n1 : ¬ m < 1 := by omega
      have n2 : ¬ 2147483647 < m := by omega
      go_wp2_with fail
      refine ⟨?_, by simp [intOf]; omega⟩
      first | exact ⟨k + 1, by omega, by go_num⟩ | ((repeat apply Exists.intro); exact ⟨⟨k + 1, by omega, by go_num⟩, rfl⟩)
    · have hk7 : k = 7 := by omega
      subst hk7
      have HA := Lib.hid ((Blk.new w 73 #[.string ⟨#[117]⟩, .string ⟨#[112]⟩, .int .i64 m1, .int .i64 m2, .int .i64 m3, .int .i64 m4, .int .i64 m5, .int .i64 m6, .int .i64 m7]).alloc (.cells #[.int .i64 m1, .int .i64 m2, .int .i64 m3, .int .i64 m4, .int .i64 m5, .int .i64 m6, .int .i64 m7] 3))
      have HB0 := Lib.hid (below_then (below_alloc1 w (.cells #[.string ⟨#[117]⟩, .string ⟨#[112]⟩, .int .i64 m1, .int .i64 m2, .int .i64 m3, .int .i64 m4, .int .i64 m5, .int .i64 m6, .int .i64 m7] 73)) (below_alloc1 _ (.cells #[.int .i64 m1, .int .i64 m2, .int .i64 m3, .int .i64 m4, .int .i64 m5, .int .i64 m6, .int .i64 m7] 3)))
      clear HC
      go_wp2_with (first
        | (go_at_call 92; refine (hL _).mono ?_; rintro e w3 ⟨rfl, hl, hb, hlt3⟩; have hA3 := HA.out.below hb (by simp; omega); have d0 : w3.cell? ⟨w.heap.size, 0, none⟩ = some (.string ⟨#[117]⟩) := hA3.cell 0; have d1 : w3.cell? ⟨w.heap.size, 1, none⟩ = some (.string ⟨#[112]⟩) := hA3.cell 1; have d2 : w3.cell? ⟨w.heap.size, 2, none⟩ = some (.int .i64 m1) := hA3.cell 2; have d3 : w3.cell? ⟨w.heap.size, 3, none⟩ = some (.int .i64 m2) := hA3.cell 3; have d4 : w3.cell? ⟨w.heap.size, 4, none⟩ = some (.int .i64 m3) := hA3.cell 4; have d5 : w3.cell? ⟨w.heap.size, 5, none⟩ = some (.int .i64 m4) := hA3.cell 5; have d6 : w3.cell? ⟨w.heap.size, 6, none⟩ = some (.int .i64 m5) := hA3.cell 6; have d7 : w3.cell? ⟨w.heap.size, 7, none⟩ = some (.int .i64 m6) := hA3.cell 7; have d8 : w3.cell? ⟨w.heap.size, 8, none⟩ = some (.int .i64 m7) := hA3.cell 8; have HB3 := Lib.hid (below_then HB0.out hb); have HL3 := Lib.hid hl; clear hb hl hL hA3)
        | (go_at_call 54; (refine (atomStore_any (w3.heap.size + 1) 9 0 1 _ ((blk_new2 w3 _ _ _).cell 9) ((blk_new2 w3 _ _ _).frozen 9)).mono ?_; rintro e w4 ⟨rfl, rfl⟩))
        | fail)
      go_ret2
      have hl3 := HL3.out
      simp only [World.size_alloc] at hl3
      have hlt4 : w.heap.size + 1 + 1 < w3.heap.size := by simpa using hlt3
      have hsz := HB3.out.size
      refine ⟨w3.heap.size + 1, ⟨w.heap.size + 1 + 1, none, some w3.heap.size, none, .slice (some ⟨w3.heap.size, 0, none⟩) 1 1, .slice none 0 0, []⟩, rfl, ⟨storeAt_new (blk_new2 w3 _ _ _) (hl3.chg (((Chg.refl [] w3).alloc _).alloc _) (by simp) (by simp)) ((Blk.new w3 _ _).alloc _), (HB3.out.alloc hsz _).alloc (by simp; omega) _, fun k hk => ?_⟩⟩
      simp only [Lies.own, Option.toList, List.mem_cons, List.mem_append, List.not_mem_nil, or_false, false_or] at hk
      rcases hk with rfl | rfl | rfl <;> omega

end Go.Proofs.YtgkfknbhkonfdaaGreatDoor

namespace Go.Proofs.YtgkfknbhkonfdaaGreatDoor
open Go.Shelf Go.RowKit
attribute [local go_sem ↓] Go.wp_at_zero Go.wp_at_succ

theorem num_any (w : World) (n : Int) : Calls Tryz.prog 13 #[.int .i64 n] w fun e w' => e = .returned (.int .i64 n) ∧ w = w' := by
  go_enter Tryz.func13, Tryz.ntmps13
  go_wp2
  go_ret
  exact ⟨rfl, rfl⟩

theorem boxes_any (w : World) (g : Nat) (q : Lies) (x : Acc) (h : StoreAt w g q x) (hn : x.boxes.length ≤ 1099511627776) :
    Calls Tryz.prog 39 #[.pointer (some ⟨g, 0, none⟩)] w fun e w' => ∃ v hh, e = .returned v ∧ Sl w' 80 6 v hh x.boxes.length (flatG encB x.boxes) ∧ (∀ b, hh = some b → w.heap.size ≤ b) ∧ Below w.heap.size w w' := by
  have hc := cloneB_any w q.vb x.boxes.length (flatG encB x.boxes) (h.boxes.reads [] (by simp)) (flatG_one encB_one x.boxes) hn
  have c10 := h.cell10
  clear h
  go_enter Tryz.func39, Tryz.ntmps39
  go_wp2_with (first
    | (go_at_call 95; refine hc.mono ?_; rintro e w1 ⟨v, hh, rfl, hs, hb, ho⟩)
    | fail)
  go_ret
  exact ⟨v, hh, rfl, hs, ho, hb⟩

theorem wide_any (w : World) : Calls Tryz.prog 36 #[] w fun e w' => e = .returned (.agg #[.string ⟨#[117]⟩, .string ⟨#[112]⟩, .int .i64 1000, .int .i64 100, .int .i64 1048576, .int .i64 1073741824, .int .i64 1073741824, .int .i64 10000, .int .i64 200]) ∧ Below w.heap.size w w' := by
  go_enter Tryz.func36, Tryz.ntmps36
  go_wp2
  refine bodyPost_ret (v := .agg #[.string ⟨#[117]⟩, .string ⟨#[112]⟩, .int .i64 1000, .int .i64 100, .int .i64 1048576, .int .i64 1073741824, .int .i64 1073741824, .int .i64 10000, .int .i64 200]) ?_ rfl ⟨rfl, ?_⟩
  · simp [results, Tryz.results36, go_sem]
  · exact below_alloc1 w _

end Go.Proofs.YtgkfknbhkonfdaaGreatDoor

namespace Go.Proofs.YtgkfknbhkonfdaaGreatDoor
open Go.Shelf Go.RowKit

def baOf (s : Text) : ByteArray := ⟨s.toArray⟩
theorem baOf_inj {a b : Text} (h : baOf a = baOf b) : a = b := by
  have h1 := congrArg (fun x => x.data.toList) h
  simpa [baOf] using h1
theorem rds_strs {w : World} {S : List Nat} {v : Value} {ss : Texts} (h : RdS w S 1 v ss.length (ss.map encStr)) (hn : 0 < ss.length) :
    ∃ b off cap, v = .slice (some ⟨b, off, none⟩) ss.length cap ∧ ∀ j, j < (ss.map baOf).length → w.cell? ⟨b, off + j, none⟩ = some (.string ((ss.map baOf).getD j ByteArray.empty)) := by
  obtain ⟨b, off, cap, hv, _, _, _, _, hat⟩ := h.at_ hn
  refine ⟨b, off, cap, hv, fun j hj => ?_⟩
  have hj2 : j < ss.length := by simpa using hj
  rw [hat j (by omega)]
  simp [List.getD, hj2, encStr, baOf]

theorem equalS_any (w : World) (v1 v2 : Value) (S1 S2 : List Nat) (xs ys : Texts) (h1 : RdS w S1 1 v1 xs.length (xs.map encStr)) (h2 : RdS w S2 1 v2 ys.length (ys.map encStr)) (hn1 : xs.length ≤ 1099511627776) (hn2 : ys.length ≤ 1099511627776) :
    Calls Tryz.prog 76 #[v1, v2] w fun e w' => e = .returned (.bool (decide (xs = ys))) ∧ Below w.heap.size w w' := by
  by_cases hl : xs.length = ys.length
  case neg =>
    have hr : decide (xs = ys) = false := decide_eq_false (fun e => hl (by rw [e]))
    rw [hr]
    obtain ⟨a1, c1, rfl, _, _⟩ := h1.form
    obtain ⟨a2, c2, rfl, _, _⟩ := h2.form
    refine (Tryz.slices_Equal_string_lens a1 a2 xs.length c1 ys.length c2 w hl).mono ?_
    rintro e w' ⟨rfl, rfl⟩
    exact ⟨rfl, Below.refl _ _⟩
  by_cases h0 : xs.length = 0
  · obtain rfl : xs = [] := List.eq_nil_of_length_eq_zero h0
    obtain rfl : ys = [] := List.eq_nil_of_length_eq_zero (by rw [← hl]; rfl)
    obtain ⟨a1, c1, rfl, _, _⟩ := h1.form
    obtain ⟨a2, c2, rfl, _, _⟩ := h2.form
    refine (Tryz.slices_Equal_string_empty a1 a2 c1 0 c2 w (by omega)).mono ?_
    rintro e w' ⟨rfl, rfl⟩
    exact ⟨rfl, Below.refl _ _⟩
  · obtain ⟨b1, o1, c1, rfl, k1⟩ := rds_strs h1 (by omega)
    obtain ⟨b2, o2, c2, rfl, k2⟩ := rds_strs h2 (by omega)
    refine (Tryz.slices_Equal_string b1 o1 xs.length c1 b2 o2 ys.length c2 (xs.map baOf) (ys.map baOf) w (by simp) (by simp) (by omega) (by omega) k1 k2).mono ?_
    rintro e w' ⟨rfl, n, rfl⟩
    refine ⟨ret_bool ?_, ⟨rfl, rfl, rfl, Nat.le_refl _, fun _ _ => rfl⟩⟩
    rw [List.take_of_length_le (by simp), List.take_of_length_le (by simp)]
    refine decide_eq_decide.2 ⟨fun h => ?_, fun h => by rw [h]⟩
    exact (List.map_inj_right (fun a b hab => baOf_inj hab)).1 h

theorem hasS_any (w : World) (v : Value) (S : List Nat) (ss : Texts) (c : Text) (h : RdS w S 1 v ss.length (ss.map encStr)) (hn : ss.length ≤ 1099511627776) :
    Calls Tryz.prog 77 #[v, .string ⟨c.toArray⟩] w fun e w' => e = .returned (.bool (decide (c ∈ ss))) ∧ w = w' := by
  by_cases h0 : ss.length = 0
  · obtain rfl : ss = [] := List.eq_nil_of_length_eq_zero h0
    obtain ⟨a1, c1, rfl, _, _⟩ := h.form
    refine (Tryz.slices_Contains_string_empty a1 c1 ⟨c.toArray⟩ w).mono ?_
    rintro e w' ⟨rfl, rfl⟩
    exact ⟨by simp, rfl⟩
  · obtain ⟨b1, o1, c1, rfl, k1⟩ := rds_strs h (by omega)
    refine (Tryz.slices_Contains_string b1 o1 ss.length c1 (ss.map baOf) ⟨c.toArray⟩ w (by simp) (by omega) k1).mono ?_
    rintro e w' ⟨rfl, rfl⟩
    refine ⟨ret_bool ?_, rfl⟩
    rw [List.take_of_length_le (by simp), Bool.eq_iff_iff, Lib.containsS_iff, decide_eq_true_iff]
    constructor
    · intro hm
      obtain ⟨a, ha, e⟩ := List.mem_map.1 hm
      rw [← baOf_inj (a := a) (b := c) e]
      exact ha
    · intro hm
      exact List.mem_map.2 ⟨c, hm, rfl⟩

end Go.Proofs.YtgkfknbhkonfdaaGreatDoor
