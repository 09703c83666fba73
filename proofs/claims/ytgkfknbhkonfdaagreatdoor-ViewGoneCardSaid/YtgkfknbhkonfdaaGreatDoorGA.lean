/-
  Small laws over any program, for the walks of this seat: an append of what a literal has just laid.
  Memory in words of this seat: a block known whole, what a step has turned, a slice that the call's own memory holds (at any offset), and append onto it. Over any program.
  The log in plain words, with no program in sight: entries, what is added, what is told since a state, in the program's own order of steps and in the document's.
  The walks of log.New, Log.Floor and Log.Add.
  The walks of slices.Clone at entries, Log.All, Log.Copy.
  Elements of k cells each laid in a row, whatever they are: the general words of a list in memory.
  A range over a function whose iterator keeps its state in a cell of its own (block B, laid ahead of the loop): the caller's law, out of the kit's laws of the statement and of the round. The caller's word abides a store into that cell.
-/
import Derived.WalkKit
import Derived.WalkSpells
import Derived.WalkLawsBesides
import Derived.Lib.Hide
import Derived.RegionTactic
import Derived.Deep.Draws
import Derived.Below
import Derived.Test.YtgkfknbhkonfdaaGreatDoorProg
import Derived.Deep.QuietTactic
import Derived.BigQuiet
import Derived.Deep.RegionLaw
import Derived.Deep.DrawnRows
import Derived.Deep.DeepCutAuto
import Derived.Deep.CutBlock
import Derived.RangeFuncFrom
namespace Go.Proofs.YtgkfknbhkonfdaaGreatDoor
open Go.RowKit

theorem ret_bool {a b : Bool} (h : a = b) : Ending.returned (.bool a) = .returned (.bool b) := by rw [h]
theorem ret_str {a b : ByteArray} (h : a = b) : Ending.returned (.string a) = .returned (.string b) := by rw [h]
theorem ret_int {k : IntKind} {a b : Int} (h : a = b) : Ending.returned (.int k a) = .returned (.int k b) := by rw [h]

theorem Addr.add_zero_off (g j : Nat) : (⟨g, 0, none⟩ : Addr).add j = ⟨g, j, none⟩ := by
  unfold Addr.add
  split <;> simp_all

/-- 'append(s, x)' where x's cells have just been laid in a block of their own, s a row of the call's own. -/
theorem wpList_append_new {P : Program} {W : World} {cs : Array Value} {e' : TypeId} {ops : Array Oper} {rest : List Oper} {o : Oper} {a : Act} {Q : Exit → Act → World → Prop}
    (hgd : o.guard = none) (s x : Operand) (t : TypeId)
    (ho : o.op = .call { callee := .builtin .append, args := #[s, x], argTypes := #[t, t] })
    {base : Nat} {e : TypeId} {i : TypeInfo} {z : Value} {size bytes : Nat} (ht : P.underlying t = some (.slice e)) (hi : P.info? e = some i) (hz : i.zero = some z)
    (hsize : i.size = size) (hby : i.bytes = bytes) (hzs : z.cells.size = size) (hsz : 0 < size)
    {v : Value} {n : Nat} {xs : List Value} (hown : W.ownsRow base e size v n xs) (hs : a.eval s = v)
    (m c : Nat) (hx : a.eval x = .slice (some ⟨W.heap.size, 0, none⟩) m c) (hl : cs.toList.length = m * size) (h1 : ∀ u ∈ cs.toList, u.oneCell' = true)
    (h63 : n + m ≤ maxLen) (hbytes : (n + m) * bytes ≤ 140737488355328) (hbase : base ≤ W.heap.size)
    (h : ∀ v' w', w'.ownsRow base e size v' (n + m) (xs ++ cs.toList) → W.grownBy w' v.ownBlock → (v' = .slice none 0 0 ↔ v = .slice none 0 0 ∧ m = 0) → wpList P ops Q rest (a.put o.dst v') w') :
    wpList P ops Q (o :: rest) a (W.alloc (.cells cs e')) := by
  refine wpList_append_own _ hgd s x t ho base e i z size bytes ht hi hz hsize hby hzs hsz v n xs hs (hown.alloc _) ⟨W.heap.size, 0, none⟩ m c cs.toList hx hl ?_ h1 h63 hbytes (by simp; omega) ?_
  · intro j u hj
    rw [Addr.add_zero_off, World.cell?_alloc_at _ _ _ _ rfl]
    simpa using hj
  · intro v' w' h2 h3 h4
    refine h v' w' h2 ?_ h4
    refine ⟨h3.os, h3.tape, h3.output, Nat.le_trans (by simp) h3.size, fun k hk hne => ?_⟩
    rw [h3.block k (by simp; omega) hne]
    exact Below.heap_alloc _ _ _ hk

/-- The string of a row of bytes of the call's own. -/
theorem run_string_own {P : Program} {w : World} {src e base n : Nat} {v : Value} {xs : List Int} (hs : P.underlying src = some (.slice e)) (he : P.underlying e = some (.int .u8))
    (h : w.ownsRow base e 1 v n (xs.map (Value.int .u8))) (dst : TypeId) (hd : P.underlying dst = some .string) :
    (convert src dst v).run P w = .ok (.string (strOfNums xs)) w := by
  have hlen : xs.length = n := by have := h.1; simpa using this
  rcases h.2 with ⟨rfl, rfl⟩ | ⟨g, cap, cur, rfl, _, hg, hnc, _, hcs, htake⟩
  · have : xs = [] := List.eq_nil_of_length_eq_zero hlen
    subst this
    exact run_convert_bytes_nil w src e hs he 0 0 dst hd
  · refine run_convert_bytes_arg w src e hs he g 0 n cap xs hlen (fun i hi => ?_) dst hd
    have h2 := h.cellAt i (by omega)
    rw [Nat.zero_add, h2]
    simp [List.getD, List.getElem?_eq_getElem (show i < xs.length by omega)]

end Go.Proofs.YtgkfknbhkonfdaaGreatDoor

namespace Go.Proofs.YtgkfknbhkonfdaaGreatDoor
open Go.RowKit

/-- Block g is just the cells cs of element type t, none frozen. -/
def Blk (w : World) (g : Nat) (t : TypeId) (cs : Array Value) : Prop := w.heap[g]? = some (.cells cs t (0, 0))

/-- From w to w' only the blocks named, and new ones, have turned. -/
structure Chg (S : List Nat) (w w' : World) : Prop where
  os : w'.os = w.os
  tape : w'.tape = w.tape
  output : w'.output = w.output
  size : w.heap.size ≤ w'.heap.size
  block : ∀ k, k < w.heap.size → k ∉ S → w'.heap[k]? = w.heap[k]?

section
variable {w w' w'' : World} {g : Nat} {t : TypeId} {cs : Array Value} {S T : List Nat}

theorem Blk.lt (h : Blk w g t cs) : g < w.heap.size := by
  rcases Nat.lt_or_ge g w.heap.size with hlt | hge
  · exact hlt
  · unfold Blk at h
    rw [Array.getElem?_eq_none hge] at h
    cases h
theorem Blk.cell (h : Blk w g t cs) (i : Nat) : w.cell? ⟨g, i, none⟩ = cs[i]? := cell_of_row w g i cs t (0, 0) h
theorem Blk.frozen (h : Blk w g t cs) (i : Nat) : w.frozen? ⟨g, i, none⟩ = false := by
  unfold Blk at h
  simp [World.frozen?, h]
theorem Blk.new (w : World) (t : TypeId) (cs : Array Value) : Blk (w.alloc (.cells cs t)) w.heap.size t cs := heap_alloc_new w _
theorem Blk.heap (h : Blk w g t cs) (e : w'.heap = w.heap) : Blk w' g t cs := by
  unfold Blk at h ⊢
  rw [e]
  exact h
theorem Blk.alloc (h : Blk w g t cs) (o : Obj) : Blk (w.alloc o) g t cs := (Below.heap_alloc w o g h.lt).trans h
theorem Blk.chg (h : Blk w g t cs) (hc : Chg S w w') (hg : g ∉ S) : Blk w' g t cs := (hc.block g h.lt hg).trans h
theorem Blk.below {B : Nat} (h : Blk w g t cs) (hb : Below B w w') (hg : g < B) : Blk w' g t cs := (hb.block g hg).trans h
theorem Blk.set (h : Blk w g t cs) (i : Nat) (u : Value) : Blk (w.setCell ⟨g, i, none⟩ u) g t (cs.setIfInBounds i u) := by
  unfold Blk at h ⊢
  simp [World.setCell, Array.getElem?_modify, h]
theorem Blk.far (h : Blk w g t cs) {p : Addr} (hp : g ≠ p.block) (u : Value) : Blk (w.setCell p u) g t cs := (Below.heap_setCell w p u g hp).trans h
theorem Blk.inj {t' : TypeId} {cs' : Array Value} (h : Blk w g t cs) (h' : Blk w g t' cs') : t = t' ∧ cs = cs' := by
  unfold Blk at h h'
  rw [h] at h'
  simp only [Option.some.injEq, Obj.cells.injEq, and_true] at h'
  exact ⟨h'.2, h'.1⟩
theorem Blk.ne {g' : Nat} {t' : TypeId} {cs' : Array Value} (h : Blk w g t cs) (h' : Blk w g' t' cs') (hne : t ≠ t') : g ≠ g' := by
  rintro rfl
  exact hne (h.inj h').1

theorem Chg.refl (S : List Nat) (w : World) : Chg S w w := ⟨rfl, rfl, rfl, Nat.le_refl _, fun _ _ _ => rfl⟩
theorem Chg.mono (h : Chg S w w') (hs : ∀ k ∈ S, k ∈ T ∨ w.heap.size ≤ k) : Chg T w w' :=
  ⟨h.os, h.tape, h.output, h.size, fun k hk hn => h.block k hk (fun hm => by
    rcases hs k hm with h1 | h1
    · exact hn h1
    · omega)⟩
theorem Chg.trans (h : Chg S w w') (k : Chg T w' w'') (hs : ∀ i ∈ T, i ∈ S ∨ w.heap.size ≤ i) : Chg S w w'' :=
  ⟨k.os.trans h.os, k.tape.trans h.tape, k.output.trans h.output, Nat.le_trans h.size k.size, fun i hi hn =>
    (k.block i (Nat.lt_of_lt_of_le hi h.size) (fun hm => by
      rcases hs i hm with h1 | h1
      · exact hn h1
      · omega)).trans (h.block i hi hn)⟩
theorem Chg.alloc (h : Chg S w w') (o : Obj) : Chg S w (w'.alloc o) :=
  ⟨h.os, h.tape, h.output, Nat.le_trans h.size (by simp), fun k hk hn => (Below.heap_alloc w' o k (Nat.lt_of_lt_of_le hk h.size)).trans (h.block k hk hn)⟩
theorem Chg.heap (h : Chg S w w') (e : w''.heap = w'.heap) (e1 : w''.os = w'.os) (e2 : w''.tape = w'.tape) (e3 : w''.output = w'.output) : Chg S w w'' :=
  ⟨e1.trans h.os, e2.trans h.tape, e3.trans h.output, by rw [e]; exact h.size, fun k hk hn => by rw [e]; exact h.block k hk hn⟩
theorem Chg.drewN (h : Chg S w w') (n : Nat) : Chg S w (w'.drewN n) := h.heap rfl rfl rfl rfl
theorem Chg.drew (h : Chg S w w') : Chg S w w'.drew := h.heap rfl rfl rfl rfl
theorem Chg.set (h : Chg S w w') {p : Addr} (hp : p.block ∈ S ∨ w.heap.size ≤ p.block) (u : Value) : Chg S w (w'.setCell p u) :=
  ⟨h.os, h.tape, h.output, by simpa [World.setCell] using h.size, fun k hk hn => (Below.heap_setCell w' p u k (by
    rintro rfl
    rcases hp with hp | hp
    · exact hn hp
    · omega)).trans (h.block k hk hn)⟩
theorem Chg.of_below (h : Below w.heap.size w w') (S : List Nat) : Chg S w w' := ⟨h.os, h.tape, h.output, h.size, fun k hk _ => h.block k hk⟩
theorem Chg.of_grown {row : Option Nat} (h : w.grownBy w' row) : Chg row.toList w w' :=
  ⟨h.os, h.tape, h.output, h.size, fun k hk hn => h.block k hk (fun e => hn (by rw [← e]; simp))⟩
theorem Chg.cell (h : Chg S w w') {p : Addr} (hlt : p.block < w.heap.size) (hp : p.block ∉ S) : w'.cell? p = w.cell? p := World.cell?_of_block (h.block p.block hlt hp)
theorem Chg.frozen (h : Chg S w w') {p : Addr} (hlt : p.block < w.heap.size) (hp : p.block ∉ S) : w'.frozen? p = w.frozen? p := World.frozen?_of_block (h.block p.block hlt hp)
/-- Where all that has turned is of the call's own. -/
theorem Chg.below {B : Nat} (h : Chg S w w') (hb : B ≤ w.heap.size) (hs : ∀ k ∈ S, B ≤ k) : Below B w w' :=
  ⟨h.os, h.tape, h.output, h.size, fun k hk => h.block k (by omega) (fun hm => by have := hs k hm; omega)⟩

/-- The value v is a slice of n elements of type e (size cells each) that are the cells xs, in a block h of which all that lies behind them up to the capacity is there, none frozen; nil: h = none. -/
def Sl (w : World) (e : TypeId) (size : Nat) (v : Value) (h : Option Nat) (n : Nat) (xs : List Value) : Prop :=
  xs.length = n * size ∧
  ((h = none ∧ v = .slice none 0 0 ∧ n = 0) ∨
   ∃ b off cap cur, h = some b ∧ v = .slice (some ⟨b, off, none⟩) n cap ∧ Blk w b e cur ∧ n ≤ cap ∧ cap ≤ maxLen ∧ off + cap * size ≤ cur.size ∧ (cur.toList.drop off).take (n * size) = xs)

variable {e : TypeId} {size n : Nat} {v : Value} {h : Option Nat} {xs : List Value}

theorem Sl.nil (w : World) (e : TypeId) (size : Nat) : Sl w e size (.slice none 0 0) none 0 [] := ⟨by simp, .inl ⟨rfl, rfl, rfl⟩⟩
theorem Sl.of_own {base : Nat} (ho : w.ownsRow base e size v n xs) : Sl w e size v v.ownBlock n xs := by
  refine ⟨ho.1, ?_⟩
  rcases ho.2 with ⟨rfl, rfl⟩ | ⟨g, cap, cur, rfl, _, hg, hn, hc, hs, ht⟩
  · exact .inl ⟨rfl, rfl, rfl⟩
  · exact .inr ⟨g, 0, cap, cur, rfl, rfl, hg, hn, hc, by omega, by simpa using ht⟩
theorem Sl.keep (hs : Sl w e size v h n xs) (hk : ∀ b, h = some b → w'.heap[b]? = w.heap[b]?) : Sl w' e size v h n xs := by
  refine ⟨hs.1, ?_⟩
  rcases hs.2 with hn | ⟨b, off, cap, cur, hh, hv, hb, r⟩
  · exact .inl hn
  · exact .inr ⟨b, off, cap, cur, hh, hv, (hk b hh).trans hb, r⟩
theorem Sl.lt (hs : Sl w e size v h n xs) : ∀ b, h = some b → b < w.heap.size := by
  intro b hb
  rcases hs.2 with ⟨hn, _⟩ | ⟨b', off, cap, cur, hh, hv, hB, _⟩
  · rw [hb] at hn
    cases hn
  · rw [hb] at hh
    obtain rfl := Option.some.inj hh
    exact hB.lt
theorem Sl.chg (hs : Sl w e size v h n xs) (hc : Chg S w w') (hn : ∀ b, h = some b → b ∉ S) : Sl w' e size v h n xs :=
  hs.keep fun b hb => hc.block b (hs.lt b hb) (hn b hb)
theorem Sl.heap (hs : Sl w e size v h n xs) (he : w'.heap = w.heap) : Sl w' e size v h n xs := hs.keep fun b _ => by rw [he]
theorem Sl.alloc (hs : Sl w e size v h n xs) (o : Obj) : Sl (w.alloc o) e size v h n xs := hs.keep fun b hb => Below.heap_alloc w o b (hs.lt b hb)
theorem Sl.far (hs : Sl w e size v h n xs) {p : Addr} (hp : h ≠ some p.block) (u : Value) : Sl (w.setCell p u) e size v h n xs :=
  hs.keep fun b hb => Below.heap_setCell w p u b (fun e => hp (by rw [hb, e]))
theorem Sl.ne_blk {g' : Nat} {t' : TypeId} {cs' : Array Value} (hs : Sl w e size v h n xs) (hb : Blk w g' t' cs') (hne : e ≠ t') : ∀ b, h = some b → b ≠ g' := by
  intro b hh
  rcases hs.2 with ⟨hn, _⟩ | ⟨b', off, cap, cur, hh', hv, hB, _⟩
  · rw [hh] at hn
    cases hn
  · rw [hh] at hh'
    obtain rfl := Option.some.inj hh'
    exact hB.ne hb hne
/-- Where there is an element: the address, and each cell. -/
theorem Sl.at_ (hs : Sl w e size v h n xs) (hn : 0 < n) : ∃ b off cap, h = some b ∧ v = .slice (some ⟨b, off, none⟩) n cap ∧ n ≤ cap ∧ cap ≤ maxLen ∧ b < w.heap.size ∧
    ∀ j, j < n * size → w.cell? ⟨b, off + j, none⟩ = xs[j]? ∧ w.frozen? ⟨b, off + j, none⟩ = false := by
  rcases hs.2 with ⟨_, _, rfl⟩ | ⟨b, off, cap, cur, hh, hv, hB, hnc, hcm, hcs, ht⟩
  · omega
  · refine ⟨b, off, cap, hh, hv, hnc, hcm, hB.lt, fun j hj => ⟨?_, hB.frozen _⟩⟩
    rw [hB.cell, ← ht, List.getElem?_take, if_pos hj, List.getElem?_drop]
    simp
/-- Its shape, empty or not. -/
theorem Sl.form (hs : Sl w e size v h n xs) : ∃ A cap, v = .slice A n cap ∧ n ≤ cap ∧ cap ≤ maxLen := by
  rcases hs.2 with ⟨_, rfl, rfl⟩ | ⟨b, off, cap, cur, _, hv, _, hnc, hcm, _⟩
  · exact ⟨none, 0, rfl, Nat.le_refl _, Nat.zero_le _⟩
  · exact ⟨_, cap, hv, hnc, hcm⟩
/-- One cell stored. -/
theorem Sl.store {b off cap : Nat} (hs : Sl w e size (.slice (some ⟨b, off, none⟩) n cap) h n xs) (j : Nat) (u : Value) :
    Sl (w.setCell ⟨b, off + j, none⟩ u) e size (.slice (some ⟨b, off, none⟩) n cap) h n (xs.set j u) := by
  refine ⟨by simpa using hs.1, ?_⟩
  rcases hs.2 with ⟨_, hv, _⟩ | ⟨b', off', cap', cur, hh, hv, hB, hnc, hcm, hcs, ht⟩
  · cases hv
  · simp only [Value.slice.injEq, Option.some.injEq, Addr.mk.injEq, and_true, true_and] at hv
    obtain ⟨⟨rfl, rfl⟩, rfl⟩ := hv
    refine .inr ⟨b, off, cap, cur.setIfInBounds (off + j) u, hh, rfl, hB.set _ u, hnc, hcm, by simpa using hcs, ?_⟩
    rw [Array.toList_setIfInBounds, ← ht, ← List.take_set, List.drop_set, if_neg (by omega), Nat.add_sub_cancel_left]
/-- 's[k:]', k below the length. -/
theorem Sl.cut {b off cap : Nat} (hs : Sl w e size (.slice (some ⟨b, off, none⟩) n cap) h n xs) (k : Nat) (hk : k < n) :
    Sl w e size (.slice (some ⟨b, off + k * size, none⟩) (n - k) (cap - k)) h (n - k) (xs.drop (k * size)) := by
  refine ⟨by rw [List.length_drop, hs.1, Nat.sub_mul], ?_⟩
  rcases hs.2 with ⟨_, hv, _⟩ | ⟨b', off', cap', cur, hh, hv, hB, hnc, hcm, hcs, ht⟩
  · cases hv
  · simp only [Value.slice.injEq, Option.some.injEq, Addr.mk.injEq, and_true, true_and] at hv
    obtain ⟨⟨rfl, rfl⟩, rfl⟩ := hv
    refine .inr ⟨b, off + k * size, cap - k, cur, hh, rfl, hB, by omega, by omega, ?_, ?_⟩
    · have : (cap - k) * size = cap * size - k * size := Nat.sub_mul _ _ _
      have h2 : k * size ≤ cap * size := Nat.mul_le_mul_right _ (by omega)
      omega
    · rw [← ht, List.drop_take, List.drop_drop, Nat.sub_mul]
end

/-- The value v is a slice of n elements (size cells each) that read as the cells xs, in a block that is none of S; nil, or empty at whatever address. -/
def RdS (w : World) (S : List Nat) (size : Nat) (v : Value) (n : Nat) (xs : List Value) : Prop :=
  xs.length = n * size ∧ ((v = .slice none 0 0 ∧ n = 0) ∨
    ∃ (a : Addr) (cap : Nat), v = .slice (some a) n cap ∧ n ≤ cap ∧ cap ≤ maxLen ∧ (0 < n → a.spot = none ∧ a.block < w.heap.size ∧ a.block ∉ S ∧ ∀ j, j < n * size → w.cell? ⟨a.block, a.off + j, none⟩ = xs[j]?))

theorem Sl.reads {w : World} {e : TypeId} {size n : Nat} {v : Value} {h : Option Nat} {xs : List Value} (hs : Sl w e size v h n xs) (S : List Nat) (hS : ∀ b, h = some b → b ∉ S) : RdS w S size v n xs := by
  refine ⟨hs.1, ?_⟩
  rcases hs.2 with ⟨_, rfl, rfl⟩ | ⟨b, off, cap, cur, hh, rfl, hB, hnc, hcm, hcs, ht⟩
  · exact .inl ⟨rfl, rfl⟩
  · refine .inr ⟨_, cap, rfl, hnc, hcm, fun hn => ⟨rfl, hB.lt, hS b hh, fun j hj => ?_⟩⟩
    obtain ⟨b', off', cap', _, hv, _, _, _, hat⟩ := hs.at_ hn
    injection hv with hv1
    injection hv1 with hv2
    injection hv2 with hv3 hv4
    subst hv3
    subst hv4
    exact (hat j hj).1
theorem RdS.keep {w w' : World} {S T : List Nat} {size n : Nat} {v : Value} {xs : List Value} (h : RdS w S size v n xs) (hsz : w.heap.size ≤ w'.heap.size) (hk : ∀ b, b < w.heap.size → b ∉ S → w'.heap[b]? = w.heap[b]?) (hT : ∀ b, b < w.heap.size → b ∉ S → b ∉ T) : RdS w' T size v n xs := by
  refine ⟨h.1, ?_⟩
  rcases h.2 with h0 | ⟨a, cap, hv, h1, h2, h3⟩
  · exact .inl h0
  · refine .inr ⟨a, cap, hv, h1, h2, fun hn => ?_⟩
    obtain ⟨r1, r2, r3, r4⟩ := h3 hn
    refine ⟨r1, by omega, hT _ r2 r3, fun j hj => ?_⟩
    rw [← r4 j hj]
    exact World.cell?_of_block (hk a.block r2 r3)
theorem RdS.chg {w w' : World} {S : List Nat} {size n : Nat} {v : Value} {xs : List Value} (h : RdS w S size v n xs) (hc : Chg S w w') : RdS w' S size v n xs :=
  h.keep hc.size hc.block (fun _ _ h => h)
theorem RdS.below {w w' : World} {S : List Nat} {size n : Nat} {v : Value} {xs : List Value} (h : RdS w S size v n xs) (hc : Below w.heap.size w w') : RdS w' S size v n xs :=
  h.keep hc.size (fun b hb _ => hc.block b hb) (fun _ _ h => h)
theorem RdS.sub {w : World} {S T : List Nat} {size n : Nat} {v : Value} {xs : List Value} (h : RdS w S size v n xs) (hT : ∀ b, b < w.heap.size → b ∉ S → b ∉ T) : RdS w T size v n xs :=
  h.keep (Nat.le_refl _) (fun _ _ _ => rfl) hT
/-- Where there is an element. -/
theorem RdS.at_ {w : World} {S : List Nat} {size n : Nat} {v : Value} {xs : List Value} (h : RdS w S size v n xs) (hn : 0 < n) :
    ∃ b off cap, v = .slice (some ⟨b, off, none⟩) n cap ∧ n ≤ cap ∧ cap ≤ maxLen ∧ b < w.heap.size ∧ b ∉ S ∧ ∀ j, j < n * size → w.cell? ⟨b, off + j, none⟩ = xs[j]? := by
  rcases h.2 with ⟨_, h0⟩ | ⟨⟨b, off, sp⟩, cap, hv, h1, h2, h3⟩
  · omega
  · obtain ⟨r1, r2, r3, r4⟩ := h3 hn
    simp only at r1 r2 r3 r4
    subst r1
    exact ⟨b, off, cap, hv, h1, h2, r2, r3, r4⟩
theorem RdS.form {w : World} {S : List Nat} {size n : Nat} {v : Value} {xs : List Value} (h : RdS w S size v n xs) : ∃ A cap, v = .slice A n cap ∧ n ≤ cap ∧ cap ≤ maxLen := by
  rcases h.2 with ⟨rfl, rfl⟩ | ⟨a, cap, hv, h1, h2, _⟩
  · exact ⟨none, 0, rfl, Nat.le_refl _, Nat.zero_le _⟩
  · exact ⟨some a, cap, hv, h1, h2⟩

section
variable {P : Program} (w : World)

theorem heap_setCells (b : Nat) (e : TypeId) : ∀ (vs : List Value) (o : Nat) (w : World) (cur : Array Value), Blk w b e cur → o + vs.length ≤ cur.size →
    Blk (w.setCells b o vs) b e ((cur.toList.take o ++ vs ++ cur.toList.drop (o + vs.length)).toArray)
  | [], o, w, cur, h, _ => by
    simp only [World.setCells, List.append_nil, List.length_nil, Nat.add_zero, List.take_append_drop]
    exact h
  | v :: r, o, w, cur, h, hl => by
    simp only [List.length_cons] at hl
    have ih := heap_setCells b e r (o + 1) (w.setCell ⟨b, o, none⟩ v) (cur.setIfInBounds o v) (h.set o v) (by simp; omega)
    have he : (cur.setIfInBounds o v).toList.take (o + 1) ++ r ++ (cur.setIfInBounds o v).toList.drop (o + 1 + r.length) = cur.toList.take o ++ (v :: r) ++ cur.toList.drop (o + (v :: r).length) := by
      rw [Array.toList_setIfInBounds, List.drop_set_of_lt (by omega)]
      have ho : o < cur.toList.length := by simp; omega
      have ht : (cur.toList.set o v).take (o + 1) = cur.toList.take o ++ [v] := by
        rw [List.take_succ_eq_append_getElem (by simpa using ho), List.take_set_of_le (Nat.le_refl _)]
        simp
      rw [ht]
      simp only [List.append_assoc, List.cons_append, List.nil_append, List.length_cons]
      rw [show o + 1 + r.length = o + (r.length + 1) from by omega]
    rw [he] at ih
    exact ih

theorem setCells_far (b : Nat) : ∀ (vs : List Value) (o : Nat) (w : World) (k : Nat), k ≠ b → (w.setCells b o vs).heap[k]? = w.heap[k]?
  | [], _, _, _, _ => rfl
  | v :: r, o, w, k, hk => by
    rw [World.setCells, setCells_far b r (o + 1) _ k hk]
    exact Below.heap_setCell w ⟨b, o, none⟩ v k hk
theorem setCells_same (b : Nat) : ∀ (vs : List Value) (o : Nat) (w : World), (w.setCells b o vs).os = w.os ∧ (w.setCells b o vs).tape = w.tape ∧ (w.setCells b o vs).output = w.output ∧ (w.setCells b o vs).heap.size = w.heap.size
  | [], _, _ => ⟨rfl, rfl, rfl, rfl⟩
  | v :: r, o, w => by
    obtain ⟨h1, h2, h3, h4⟩ := setCells_same b r (o + 1) (w.setCell ⟨b, o, none⟩ v)
    exact ⟨h1, h2, h3, h4.trans (by simp [World.setCell])⟩

/-- append onto such a slice, something is appended. -/
theorem run_append_sl {t ty e : TypeId} {i : TypeInfo} {z : Value} {size bytes : Nat} (ht : P.underlying t = some (.slice e)) (hi : P.info? e = some i) (hz : i.zero = some z)
    (hsize : i.size = size) (hby : i.bytes = bytes) (hzs : z.cells.size = size) (hsz : 0 < size)
    {v : Value} {h : Option Nat} {n : Nat} {xs : List Value} (hs : Sl w e size v h n xs)
    (a : Addr) (m c : Nat) (news : List Value) (hl : news.length = m * size) (hnews : ∀ j u, news[j]? = some u → w.cell? (a.add j) = some u) (h1 : ∀ u ∈ news, u.oneCell' = true)
    (h63 : n + m ≤ maxLen) (hbytes : (n + m) * bytes ≤ 140737488355328) :
    ∃ v' h' w', (Builtin.append_ #[t, t] ty #[v, .slice (some a) m c]).run P w = .ok v' w' ∧ Sl w' e size v' h' (n + m) (xs ++ news) ∧ Chg h.toList w w' ∧ (h' = h ∨ ∃ g, h' = some g ∧ w.heap.size ≤ g) := by
  rcases hs.2 with ⟨rfl, rfl, rfl⟩ | ⟨b, off, cap, cur, rfl, rfl, hB, hnc, hcm, hcs, htake⟩
  · have hx : xs = [] := List.eq_nil_of_length_eq_zero (by simpa using hs.1)
    subst hx
    obtain ⟨v', w', hr, hown, hg, _⟩ := run_append_own (P := P) w w.heap.size t ty e i z size bytes ht hi hz hsize hby hzs hsz (.slice none 0 0) 0 [] (World.ownsRow_nil w _ e size) a m c news hl hnews h1 (by omega) (by simpa using hbytes) (Nat.le_refl _)
    refine ⟨v', v'.ownBlock, w', hr, Sl.of_own hown, Chg.of_grown hg, ?_⟩
    cases hv : v'.ownBlock with
    | none => exact .inl rfl
    | some k => exact .inr ⟨k, rfl, (hown.lt k hv).1⟩
  · by_cases hroom : n + m ≤ cap
    · have hmul : (n + m) * size ≤ cap * size := Nat.mul_le_mul_right _ hroom
      have hadd : (n + m) * size = n * size + m * size := Nat.add_mul _ _ _
      subst hsize
      have hr := run_append_room_cells (P := P) w t ty e i ht hi b off n cap a m c news hl hnews h1 hroom (fun j hj => by
          rw [hB.cell]
          rw [Array.getElem?_eq_getElem (show off + n * i.size + j < cur.size by omega)]
          rfl) (fun j _ => hB.frozen _)
      have hB2 := heap_setCells b e news (off + n * i.size) w cur hB (by omega)
      obtain ⟨s1, s2, s3, s4⟩ := setCells_same b news (off + n * i.size) w
      refine ⟨_, some b, _, hr, ⟨by rw [List.length_append, hs.1, hl, hadd], .inr ⟨b, off, cap, _, rfl, rfl, hB2, hroom, hcm, ?_, ?_⟩⟩, ⟨s1, s2, s3, by rw [s4]; exact Nat.le_refl _, fun k _ hk => setCells_far b news _ w k (by simpa using hk)⟩, .inl rfl⟩
      · simp only [List.size_toArray, List.length_append, List.length_take, List.length_drop, Array.length_toList]
        omega
      · have hlen : (cur.toList.take (off + n * i.size)).length = off + n * i.size := by
          rw [List.length_take, Array.length_toList]
          omega
        show (List.drop off (cur.toList.take (off + n * i.size) ++ news ++ cur.toList.drop (off + n * i.size + news.length))).take ((n + m) * i.size) = xs ++ news
        rw [List.append_assoc, List.drop_append_of_le_length (by omega), List.drop_take, Nat.add_sub_cancel_left, htake, ← List.append_assoc]
        rw [List.take_append_of_le_length (by rw [List.length_append, hs.1, hl]; omega)]
        exact List.take_of_length_le (by rw [List.length_append, hs.1, hl]; omega)
    · obtain ⟨v', w', hr, hown, hg⟩ := run_append_arg_grows (P := P) w t ty e i z size bytes ht hi hz hsize hby hzs hsz ⟨b, off, none⟩ n cap xs hs.1 (fun j u hu => by
          have hj : j < n * size := by have := (List.getElem?_eq_some_iff.1 hu).1; rw [hs.1] at this; exact this
          rw [Addr.add_lit, hB.cell]
          rw [← htake, List.getElem?_take, if_pos hj, List.getElem?_drop] at hu
          simpa using hu) a m c news hl hnews (by omega) h63 hbytes
      refine ⟨v', v'.ownBlock, w', hr, Sl.of_own hown, (Chg.of_grown hg).mono (by simp), ?_⟩
      cases hv : v'.ownBlock with
      | none =>
        rcases hown.2 with ⟨_, h0⟩ | ⟨g, cap', cur', hv', _⟩
        · omega
        · rw [hv'] at hv
          simp [Value.ownBlock] at hv
      | some k => exact .inr ⟨k, rfl, (hown.lt k hv).1⟩

/-- .. in a walk: the source has just been laid in a block of its own. -/
theorem wpList_append_sl {W : World} {cs : Array Value} {e' : TypeId} {ops : Array Oper} {rest : List Oper} {o : Oper} {a : Act} {Q : Exit → Act → World → Prop}
    (hgd : o.guard = none) (s x : Operand) (t : TypeId)
    (ho : o.op = .call { callee := .builtin .append, args := #[s, x], argTypes := #[t, t] })
    {e : TypeId} {i : TypeInfo} {z : Value} {size bytes : Nat} (ht : P.underlying t = some (.slice e)) (hi : P.info? e = some i) (hz : i.zero = some z)
    (hsize : i.size = size) (hby : i.bytes = bytes) (hzs : z.cells.size = size) (hsz : 0 < size)
    {v : Value} {h : Option Nat} {n : Nat} {xs : List Value} (hsl : Sl W e size v h n xs) (hs : a.eval s = v)
    (m c : Nat) (hx : a.eval x = .slice (some ⟨W.heap.size, 0, none⟩) m c) (hl : cs.toList.length = m * size) (h1 : ∀ u ∈ cs.toList, u.oneCell' = true)
    (h63 : n + m ≤ maxLen) (hbytes : (n + m) * bytes ≤ 140737488355328)
    (hk : ∀ v' h' w', Sl w' e size v' h' (n + m) (xs ++ cs.toList) → Chg h.toList W w' → (h' = h ∨ ∃ g, h' = some g ∧ W.heap.size ≤ g) → wpList P ops Q rest (a.put o.dst v') w') :
    wpList P ops Q (o :: rest) a (W.alloc (.cells cs e')) := by
  refine wpList_plain hgd fun K hK' => ?_
  obtain ⟨v', h', w', hr, r1, r2, r3⟩ := run_append_sl (P := P) (W.alloc (.cells cs e')) (ty := o.type) ht hi hz hsize hby hzs hsz (hsl.alloc _) ⟨W.heap.size, 0, none⟩ m c cs.toList hl (fun j u hj => by
    rw [Addr.add_zero_off, World.cell?_alloc_at _ _ _ _ rfl]
    simpa using hj) h1 h63 hbytes
  unfold Oper.wp execOp
  simp only [ho, resolve, invoke, builtin, Sem.run_bind, Sem.run_pure, Result.andThen_ok, List.map_toArray, List.map_cons, List.map_nil, hs, hx, hr]
  refine hK' _ _ (hk v' h' w' r1 ⟨r2.os, r2.tape, r2.output, Nat.le_trans (by simp) r2.size, fun k hk hn => (r2.block k (by simp; omega) hn).trans (Below.heap_alloc _ _ _ hk)⟩ ?_)
  rcases r3 with h2 | ⟨g, h2, h3⟩
  · exact .inl h2
  · exact .inr ⟨g, h2, by simp at h3; omega⟩

/-- .. at whatever world, at a single operation. -/
theorem wp_append_slG {o : Oper} {a : Act} {K : Act → World → Prop} {Q : Exit → Act → World → Prop} (s x : Operand) (t : TypeId)
    (ho : o.op = .call { callee := .builtin .append, args := #[s, x], argTypes := #[t, t] })
    {e : TypeId} {i : TypeInfo} {z : Value} {size bytes : Nat} (ht : P.underlying t = some (.slice e)) (hi : P.info? e = some i) (hz : i.zero = some z)
    (hsize : i.size = size) (hby : i.bytes = bytes) (hzs : z.cells.size = size) (hsz : 0 < size)
    {v : Value} {h : Option Nat} {n : Nat} {xs : List Value} (hsl : Sl w e size v h n xs) (hs : a.eval s = v)
    (gB : Nat) (cs : Array Value) {e' : TypeId} {fr : Nat × Nat} (hB : w.heap[gB]? = some (.cells cs e' fr))
    (m c : Nat) (hx : a.eval x = .slice (some ⟨gB, 0, none⟩) m c) (hl : cs.toList.length = m * size) (h1 : ∀ u ∈ cs.toList, u.oneCell' = true)
    (h63 : n + m ≤ maxLen) (hbytes : (n + m) * bytes ≤ 140737488355328)
    (hk : ∀ v' h' w', Sl w' e size v' h' (n + m) (xs ++ cs.toList) → Chg h.toList w w' → (h' = h ∨ ∃ g, h' = some g ∧ w.heap.size ≤ g) → K (a.put o.dst v') w') :
    o.wp P a w K Q := by
  obtain ⟨v', h', w', hr, r1, r2, r3⟩ := run_append_sl (P := P) w (ty := o.type) ht hi hz hsize hby hzs hsz hsl ⟨gB, 0, none⟩ m c cs.toList hl (fun j u hj => by
    rw [Addr.add_zero_off, cell_of_row w gB j cs e' fr hB]
    simpa using hj) h1 h63 hbytes
  unfold Oper.wp execOp
  simp only [ho, resolve, invoke, builtin, Sem.run_bind, Sem.run_pure, Result.andThen_ok, List.map_toArray, List.map_cons, List.map_nil, hs, hx, hr]
  exact hk v' h' w' r1 r2 r3

/-- .. at a step of a region that draws its order. -/
theorem step_append_sl {ops : Array Oper} {o : Oper} {a : Act} {K : Act → World → Prop} {Q : Exit → Act → World → Prop} {E : Prop} (hgd : o.guard = none) (s x : Operand) (t : TypeId)
    (ho : o.op = .call { callee := .builtin .append, args := #[s, x], argTypes := #[t, t] })
    {e : TypeId} {i : TypeInfo} {z : Value} {size bytes : Nat} (ht : P.underlying t = some (.slice e)) (hi : P.info? e = some i) (hz : i.zero = some z)
    (hsize : i.size = size) (hby : i.bytes = bytes) (hzs : z.cells.size = size) (hsz : 0 < size)
    {v : Value} {h : Option Nat} {n : Nat} {xs : List Value} (hsl : Sl w e size v h n xs) (hs : a.eval s = v)
    (gB : Nat) (cs : Array Value) {e' : TypeId} {fr : Nat × Nat} (hB : w.heap[gB]? = some (.cells cs e' fr))
    (m c : Nat) (hx : a.eval x = .slice (some ⟨gB, 0, none⟩) m c) (hl : cs.toList.length = m * size) (h1 : ∀ u ∈ cs.toList, u.oneCell' = true)
    (h63 : n + m ≤ maxLen) (hbytes : (n + m) * bytes ≤ 140737488355328)
    (hk : ∀ v' h' w', Sl w' e size v' h' (n + m) (xs ++ cs.toList) → Chg h.toList w w' → (h' = h ∨ ∃ g, h' = some g ∧ w.heap.size ≤ g) → K (a.put o.dst v') w') :
    if Region.wanted o (yielded ops a.tmps) = true then Oper.wp P o a w K Q else E := by
  have hw : Region.wanted o (yielded ops a.tmps) = true := by simp [Region.wanted, hgd]
  rw [if_pos hw]
  exact wp_append_slG w s x t ho ht hi hz hsize hby hzs hsz hsl hs gB cs hB m c hx hl h1 h63 hbytes hk

/-- .. whatever the source. -/
theorem wpList_append_slA {ops : Array Oper} {rest : List Oper} {o : Oper} {a : Act} {Q : Exit → Act → World → Prop} (hgd : o.guard = none) (s x : Operand) (t : TypeId)
    (ho : o.op = .call { callee := .builtin .append, args := #[s, x], argTypes := #[t, t] })
    {e : TypeId} {i : TypeInfo} {z : Value} {size bytes : Nat} (ht : P.underlying t = some (.slice e)) (hi : P.info? e = some i) (hz : i.zero = some z)
    (hsize : i.size = size) (hby : i.bytes = bytes) (hzs : z.cells.size = size) (hsz : 0 < size)
    {v : Value} {h : Option Nat} {n : Nat} {xs : List Value} (hsl : Sl w e size v h n xs) (hs : a.eval s = v)
    (ad : Addr) (m c : Nat) (news : List Value) (hx : a.eval x = .slice (some ad) m c) (hl : news.length = m * size) (hnews : ∀ j u, news[j]? = some u → w.cell? (ad.add j) = some u) (h1 : ∀ u ∈ news, u.oneCell' = true)
    (h63 : n + m ≤ maxLen) (hbytes : (n + m) * bytes ≤ 140737488355328)
    (hk : ∀ v' h' w', Sl w' e size v' h' (n + m) (xs ++ news) → Chg h.toList w w' → (h' = h ∨ ∃ g, h' = some g ∧ w.heap.size ≤ g) → wpList P ops Q rest (a.put o.dst v') w') :
    wpList P ops Q (o :: rest) a w := by
  refine wpList_plain hgd fun K hK => ?_
  obtain ⟨v', h', w', hr, r1, r2, r3⟩ := run_append_sl (P := P) w (ty := o.type) ht hi hz hsize hby hzs hsz hsl ad m c news hl hnews h1 h63 hbytes
  unfold Oper.wp execOp
  simp only [ho, resolve, invoke, builtin, Sem.run_bind, Sem.run_pure, Result.andThen_ok, List.map_toArray, List.map_cons, List.map_nil, hs, hx, hr]
  exact hK _ _ (hk v' h' w' r1 r2 r3)

theorem wpList_append_slG {ops : Array Oper} {rest : List Oper} {o : Oper} {a : Act} {Q : Exit → Act → World → Prop} (hgd : o.guard = none) (s x : Operand) (t : TypeId)
    (ho : o.op = .call { callee := .builtin .append, args := #[s, x], argTypes := #[t, t] })
    {e : TypeId} {i : TypeInfo} {z : Value} {size bytes : Nat} (ht : P.underlying t = some (.slice e)) (hi : P.info? e = some i) (hz : i.zero = some z)
    (hsize : i.size = size) (hby : i.bytes = bytes) (hzs : z.cells.size = size) (hsz : 0 < size)
    {v : Value} {h : Option Nat} {n : Nat} {xs : List Value} (hsl : Sl w e size v h n xs) (hs : a.eval s = v)
    (gB : Nat) (cs : Array Value) {e' : TypeId} {fr : Nat × Nat} (hB : w.heap[gB]? = some (.cells cs e' fr))
    (m c : Nat) (hx : a.eval x = .slice (some ⟨gB, 0, none⟩) m c) (hl : cs.toList.length = m * size) (h1 : ∀ u ∈ cs.toList, u.oneCell' = true)
    (h63 : n + m ≤ maxLen) (hbytes : (n + m) * bytes ≤ 140737488355328)
    (hk : ∀ v' h' w', Sl w' e size v' h' (n + m) (xs ++ cs.toList) → Chg h.toList w w' → (h' = h ∨ ∃ g, h' = some g ∧ w.heap.size ≤ g) → wpList P ops Q rest (a.put o.dst v') w') :
    wpList P ops Q (o :: rest) a w :=
  wpList_plain hgd fun _ hK => wp_append_slG w s x t ho ht hi hz hsize hby hzs hsz hsl hs gB cs hB m c hx hl h1 h63 hbytes fun v' h' w' r1 r2 r3 => hK _ _ (hk v' h' w' r1 r2 r3)
/-- 'append' in a walk: the source has just been laid in a block of its own, number X. -/
theorem wpList_append_slX {W : World} {cs : Array Value} {e' : TypeId} {ops : Array Oper} {rest : List Oper} {o : Oper} {a : Act} {Q : Exit → Act → World → Prop}
    (hgd : o.guard = none) (s x : Operand) (t : TypeId)
    (ho : o.op = .call { callee := .builtin .append, args := #[s, x], argTypes := #[t, t] })
    {e : TypeId} {i : TypeInfo} {z : Value} {size bytes : Nat} (ht : P.underlying t = some (.slice e)) (hi : P.info? e = some i) (hz : i.zero = some z)
    (hsize : i.size = size) (hby : i.bytes = bytes) (hzs : z.cells.size = size) (hsz : 0 < size)
    {v : Value} {h : Option Nat} {n : Nat} {xs : List Value} (hsl : Sl W e size v h n xs) (hs : a.eval s = v) (X : Nat) (hX : W.heap.size = X)
    (m c : Nat) (hx : a.eval x = .slice (some ⟨X, 0, none⟩) m c) (hl : cs.toList.length = m * size) (h1 : ∀ u ∈ cs.toList, u.oneCell' = true)
    (h63 : n + m ≤ maxLen) (hbytes : (n + m) * bytes ≤ 140737488355328)
    (hk : ∀ v' h' w', Sl w' e size v' h' (n + m) (xs ++ cs.toList) → Chg h.toList W w' → (h' = h ∨ ∃ g, h' = some g ∧ W.heap.size ≤ g) → wpList P ops Q rest (a.put o.dst v') w') :
    wpList P ops Q (o :: rest) a (W.alloc (.cells cs e')) := by
  subst hX
  exact wpList_append_sl hgd s x t ho ht hi hz hsize hby hzs hsz hsl hs m c hx hl h1 h63 hbytes hk
end

end Go.Proofs.YtgkfknbhkonfdaaGreatDoor

namespace Go.Proofs.YtgkfknbhkonfdaaGreatDoor
open Go.RowKit

/-- An entry: Mod, Kind, Id, How. -/
structure E4 where
  m : Int
  k : Int
  i : Int
  h : Int
  deriving DecidableEq, Inhabited

def encE (e : E4) : List Value := [.int .i64 e.m, .int .i64 e.k, .int .i64 e.i, .int .i64 e.h]
def flatE (l : List E4) : List Value := l.flatMap encE

theorem flatE_nil : flatE [] = [] := rfl
theorem flatE_cons (e : E4) (l : List E4) : flatE (e :: l) = encE e ++ flatE l := by simp [flatE]
theorem flatE_append (a b : List E4) : flatE (a ++ b) = flatE a ++ flatE b := by simp [flatE]
theorem flatE_length : ∀ l : List E4, (flatE l).length = l.length * 4
  | [] => rfl
  | e :: l => by rw [flatE_cons, List.length_append, flatE_length l, List.length_cons]; simp [encE]; omega
theorem flatE_get : ∀ (l : List E4) (k j : Nat) (hk : k < l.length), j < 4 → (flatE l)[k * 4 + j]? = (encE l[k])[j]?
  | e :: l, 0, j, _, hj => by
    rw [flatE_cons, Nat.zero_mul, Nat.zero_add, List.getElem?_append_left (by simp [encE]; omega)]
    rfl
  | e :: l, k + 1, j, hk, hj => by
    rw [flatE_cons, List.getElem?_append_right (by simp [encE]; omega)]
    have : (k + 1) * 4 + j - (encE e).length = k * 4 + j := by simp [encE]; omega
    rw [this, flatE_get l k j (by simpa using hk) hj]
    rfl
theorem flatE_at (l : List E4) (k : Nat) (hk : k < l.length) :
    (flatE l)[k * 4]? = some (.int .i64 l[k].m) ∧ (flatE l)[k * 4 + 1]? = some (.int .i64 l[k].k) ∧ (flatE l)[k * 4 + 2]? = some (.int .i64 l[k].i) ∧ (flatE l)[k * 4 + 3]? = some (.int .i64 l[k].h) :=
  ⟨flatE_get l k 0 hk (by omega), flatE_get l k 1 hk (by omega), flatE_get l k 2 hk (by omega), flatE_get l k 3 hk (by omega)⟩
theorem flatE_drop (l : List E4) (k : Nat) : (flatE l).drop (k * 4) = flatE (l.drop k) := by
  induction k generalizing l with
  | zero => simp
  | succ k ih =>
    cases l with
    | nil => simp [flatE]
    | cons e l =>
      rw [flatE_cons, List.drop_succ_cons, ← ih l, show (k + 1) * 4 = (encE e).length + k * 4 from by simp [encE]; omega, List.drop_append, Nat.add_sub_cancel_left, List.drop_of_length_le (Nat.le_add_right _ _), List.nil_append]
theorem encE_one (e : E4) : ∀ u ∈ encE e, u.oneCell' = true := by
  intro u hu
  simp only [encE, List.mem_cons, List.not_mem_nil, or_false] at hu
  rcases hu with rfl | rfl | rfl | rfl <;> rfl

/-- Entries are added till one's clock falls. -/
def addLoop : List E4 → List E4 → List E4
  | es, [] => es
  | es, x :: r => if ∃ y ∈ es.getLast?, x.m < y.m then es else addLoop (es ++ [x]) r

/-- A log: how many it keeps, what it keeps, the greatest clock that it has forgotten. -/
structure LogV where
  most : Int
  es : List E4
  floor : Int

/-- What is behind an Add. -/
def LogV.add (x : LogV) (e : List E4) : LogV :=
  if ((addLoop x.es e).length : Int) - x.most > 0 then
    ⟨x.most, (addLoop x.es e).drop (((addLoop x.es e).length : Int) - x.most).toNat, ((addLoop x.es e)[(((addLoop x.es e).length : Int) - x.most).toNat - 1]?.getD default).m⟩
  else ⟨x.most, addLoop x.es e, x.floor⟩

theorem addLoop_length (es e : List E4) : (addLoop es e).length ≤ es.length + e.length := by
  induction e generalizing es with
  | nil => simp [addLoop]
  | cons x r ih =>
    unfold addLoop
    split
    · simp
    · have := ih (es ++ [x])
      simp only [List.length_append, List.length_cons, List.length_nil] at this ⊢
      omega
theorem LogV.add_length (x : LogV) (e : List E4) (hm : 1 ≤ x.most) : ((x.add e).es.length : Int) ≤ x.most ∧ (x.add e).most = x.most := by
  unfold LogV.add
  split
  · refine ⟨?_, rfl⟩
    simp only [List.length_drop]
    omega
  · refine ⟨?_, rfl⟩
    simp only
    omega

/-- What befell ids, in the order in which they first came: id, first, last. -/
abbrev Seen := List (Int × Int × Int)
def addS : Seen → E4 → Seen
  | [], e => [(e.i, e.h, e.h)]
  | p :: r, e => if p.1 = e.i then (p.1, p.2.1, e.h) :: r else p :: addS r e
theorem addS_new : ∀ (s : Seen) (e : E4), s.find? (fun p => p.1 == e.i) = none → addS s e = s ++ [(e.i, e.h, e.h)]
  | [], _, _ => rfl
  | p :: r, e, h => by
    have hp : ¬ p.1 = e.i := by
      intro hp
      simp [hp] at h
    have hr : r.find? (fun p => p.1 == e.i) = none := by simpa [hp] using h
    rw [addS, if_neg hp, addS_new r e hr]
    rfl
theorem addS_found : ∀ (s : Seen) (e : E4) (p : Int × Int × Int), s.find? (fun p => p.1 == e.i) = some p →
    (addS s e).map (·.1) = s.map (·.1) ∧ (addS s e).find? (fun p => p.1 == e.i) = some (e.i, p.2.1, e.h) ∧ ∀ x, x ≠ e.i → (addS s e).find? (fun p => p.1 == x) = s.find? (fun p => p.1 == x)
  | [], _, _, h => by simp at h
  | q :: r, e, p, h => by
    by_cases hq : q.1 = e.i
    · have hqp : q = p := by simpa [hq] using h
      subst hqp
      rw [addS, if_pos hq]
      refine ⟨rfl, by simp [hq], fun x hx => ?_⟩
      have : (q.1 == x) = false := by rw [hq, beq_eq_false_iff_ne]; exact fun e => hx e.symm
      simp [this]
    · have hr : r.find? (fun p => p.1 == e.i) = some p := by simpa [hq] using h
      obtain ⟨h1, h2, h3⟩ := addS_found r e p hr
      rw [addS, if_neg hq]
      refine ⟨by simp [h1], by simp [hq, h2], fun x hx => ?_⟩
      simp only [List.find?_cons]
      cases q.1 == x
      · exact h3 x hx
      · rfl

/-- The three lists. -/
structure Told where
  made : List Int
  turned : List Int
  gone : List Int
  deriving DecidableEq
def toldOne (t : Told) (p : Int × Int × Int) : Told :=
  if p.2.1 = 1 ∧ p.2.2 = 3 then t
  else if p.2.1 = 1 then { t with made := t.made ++ [p.1] }
  else if p.2.2 = 3 then { t with gone := t.gone ++ [p.1] }
  else { t with turned := t.turned ++ [p.1] }
def toldS (s : Seen) : Told := s.foldl toldOne ⟨[], [], []⟩
def told (l : List E4) : Told := toldS (l.foldl addS [])
def Told.size (t : Told) : Nat := t.made.length + t.turned.length + t.gone.length

/-- What is asked for. -/
def takes (kind frm clock : Int) (e : E4) : Bool := e.k == kind && decide (frm < e.m) && decide (e.m ≤ clock)

/-- An answer: the lists, the state, whether there is more; or the error's number. -/
structure Ans where
  t : Told
  state : Int
  more : Bool
  err : Int
  deriving DecidableEq
def Ans.none_ : Ans := ⟨⟨[], [], []⟩, 0, false, 12⟩

/-- The program's loop, group by group: what was taken, what is left, the answer so far, the last state. -/
def loopP (frm clock most : Int) : Nat → List E4 → List E4 → Told → Int → Ans
  | 0, _, _, t, _ => ⟨t, clock, false, 0⟩
  | _ + 1, _, [], t, _ => ⟨t, clock, false, 0⟩
  | f + 1, done, x :: r, t, last =>
    let g := (x :: r).takeWhile (fun e => e.m == x.m)
    let c := told (done ++ g)
    if 0 < most ∧ most < c.size then (if last = frm then Ans.none_ else ⟨t, last, true, 0⟩)
    else loopP frm clock most f (done ++ g) ((x :: r).drop g.length) c x.m

def LogV.since (x : LogV) (kind frm clock most : Int) : Ans :=
  if frm < x.floor ∨ clock < frm then Ans.none_
  else loopP frm clock most (x.es.filter (takes kind frm clock)).length [] (x.es.filter (takes kind frm clock)) ⟨[], [], []⟩ frm

end Go.Proofs.YtgkfknbhkonfdaaGreatDoor

namespace Go.Proofs.YtgkfknbhkonfdaaGreatDoor
open Go.RowKit
attribute [local go_sem ↓] Go.wp_at_zero Go.wp_at_succ

theorem Try.infoEntry : (Tryz.prog.info? 144).map (fun i => (i.zero, i.size, i.bytes)) = some (some (.agg #[.int .i64 0, .int .i64 0, .int .i64 0, .int .i64 0]), 4, 32) := by kernel_rfl

/-- A log in memory: block g, its entries' block h. -/
def LogAt (w : World) (g : Nat) (h : Option Nat) (x : LogV) : Prop :=
  ∃ v, Blk w g 211 #[.int .i64 x.most, v, .int .i64 x.floor] ∧ Sl w 144 4 v h x.es.length (flatE x.es)

theorem LogAt.chg {w w' : World} {g : Nat} {h : Option Nat} {x : LogV} {S : List Nat} (hl : LogAt w g h x) (hc : Chg S w w') (hg : g ∉ S) (hh : ∀ b, h = some b → b ∉ S) : LogAt w' g h x := by
  obtain ⟨v, h1, h2⟩ := hl
  exact ⟨v, h1.chg hc hg, h2.chg hc hh⟩

theorem LogAt.heap {w w' : World} {g : Nat} {h : Option Nat} {x : LogV} (hl : LogAt w g h x) (he : w'.heap = w.heap) : LogAt w' g h x := by
  obtain ⟨v, h1, h2⟩ := hl
  exact ⟨v, h1.heap he, h2.heap he⟩
theorem LogAt.moved {w w' : World} {g : Nat} {h : Option Nat} {x : LogV} (hl : LogAt w g h x) {o : Obj} {n : Nat} (he : w' = (w.alloc o).drewN n) : LogAt w' g h x := by
  subst he
  obtain ⟨v, h1, h2⟩ := hl
  exact ⟨v, (h1.alloc o).heap rfl, (h2.alloc o).heap rfl⟩

/-- Entries that can be read through a slice value: its address A; their block is none of S. -/
def RdE (w : World) (A : Option Addr) (S : List Nat) (e : List E4) : Prop :=
  e ≠ [] → ∃ b off, A = some ⟨b, off, none⟩ ∧ b < w.heap.size ∧ b ∉ S ∧ ∀ j, j < e.length * 4 → w.cell? ⟨b, off + j, none⟩ = (flatE e)[j]?

theorem new_bad (n : Int) (w : World) (hn : n < 1) :
    Calls Tryz.prog 92 #[.int .i64 n] w fun e w' => e = .returned (.tuple #[.pointer none, .int .i64 1]) ∧ w = w' := by
  go_enter Tryz.func92, Tryz.ntmps92
  go_wp2
  go_ret2
  exact ⟨rfl, rfl⟩
theorem new_ok (n : Int) (w : World) (hn : ¬ n < 1) :
    Calls Tryz.prog 92 #[.int .i64 n] w fun e w' => e = .returned (.tuple #[.pointer (some ⟨w.heap.size, 0, none⟩), .int .i64 0]) ∧ LogAt w' w.heap.size none ⟨n, [], 0⟩ ∧ Below w.heap.size w w' ∧ w.heap.size < w'.heap.size := by
  go_enter Tryz.func92, Tryz.ntmps92
  go_wp2
  go_ret2
  exact ⟨rfl, ⟨_, Blk.new _ _ _, (Sl.nil _ _ _)⟩, (Below.refl _ _).alloc (Nat.le_refl _) _, by simp⟩

/-- What Add's loop keeps. -/
structure AddRel (w : World) (g : Nat) (h : Option Nat) (x : LogV) (e : List E4) (k : Nat) (es : List E4) (h' : Option Nat) (wr : World) : Prop where
  loop : addLoop x.es e = addLoop es (e.drop k)
  len : es.length ≤ x.es.length + k
  log : LogAt wr g h' ⟨x.most, es, x.floor⟩
  chg : Chg (g :: h.toList) w wr
  own : h' = h ∨ ∃ k, h' = some k ∧ w.heap.size ≤ k

theorem add_step {w wr W1 w2 : World} {g : Nat} {h h' h2 : Option Nat} {x : LogV} {e es : List E4} {k : Nat} {y : E4} {A' A2 : Option Addr} {n m cap' cap2 : Nat} {o : Obj}
    (hu : AddRel w g h x e k es h' wr) (hk : k < e.length) (hy : e[k] = y) (hno : ¬ ∃ z ∈ es.getLast?, y.m < z.m)
    (q2 : Blk W1 g 211 #[.int .i64 x.most, .slice A' n cap', .int .i64 x.floor]) (q1 : Sl W1 144 4 (.slice A' n cap') h' n (flatE es)) (q4 : Chg (g :: h.toList) w W1)
    (hs2 : Sl w2 144 4 (.slice A2 m cap2) h2 (n + 1) (flatE es ++ (#[.int .i64 y.m, .int .i64 y.k, .int .i64 y.i, .int .i64 y.h] : Array Value).toList))
    (hc2 : Chg h'.toList (W1.alloc o).drew w2) (ho2 : h2 = h' ∨ ∃ g, h2 = some g ∧ (W1.alloc o).drew.heap.size ≤ g) :
    AddRel w g h x e (k + 1) (es ++ [y]) h2 (w2.setCell ⟨g, 1, none⟩ (.slice A2 m cap2)) := by
  have hsz : (W1.alloc o).drew.heap.size = W1.heap.size + 1 := by simp
  have hgn : g ∉ h'.toList := fun hm => by
    simp at hm
    exact q1.ne_blk q2 (by decide) g hm rfl
  have hw1 : w.heap.size ≤ W1.heap.size := q4.size
  have hB2 : Blk w2 g 211 #[.int .i64 x.most, .slice A' n cap', .int .i64 x.floor] := ((q2.alloc o).heap rfl : Blk (W1.alloc o).drew g _ _).chg hc2 hgn
  have hfl : flatE es ++ (#[.int .i64 y.m, .int .i64 y.k, .int .i64 y.i, .int .i64 y.h] : Array Value).toList = flatE (es ++ [y]) := by rw [flatE_append]; rfl
  rw [hfl] at hs2
  have hne2 : h2 ≠ some g := by
    intro hh
    exact hs2.ne_blk hB2 (by decide) g hh rfl
  have hfar : ∀ b, h2 = some b → b ≠ g := fun b hb hg => hne2 (by rw [hb, hg])
  have hn : n = es.length := by have := q1.1; rw [flatE_length] at this; omega
  have hm : m = n + 1 := by
    obtain ⟨A3, c3, hv, _⟩ := hs2.form
    injection hv
  subst hm
  subst hn
  have hchg : Chg (g :: h.toList) w w2 := by
    refine (((q4.alloc o).drew).trans hc2 fun i hi => ?_)
    simp at hi
    rcases hu.own with h1 | ⟨k1, h1, h3⟩
    · rw [h1] at hi
      exact .inl (by simp [hi])
    · rw [h1] at hi
      simp at hi
      subst hi
      exact .inr h3
  refine ⟨?_, ?_, ⟨_, hB2.set 1 _, ?_⟩, hchg.set (.inl (by simp)) _, ?_⟩
  · rw [hu.loop, List.drop_eq_getElem_cons hk, hy, addLoop, if_neg hno]
  · have := hu.len
    simp only [List.length_append, List.length_cons, List.length_nil]
    omega
  · have h3 := hs2.far (p := ⟨g, 1, none⟩) hne2 (.slice A2 (es.length + 1) cap2)
    have hl : (es ++ [y]).length = es.length + 1 := by simp
    rw [hl]
    exact h3
  · rcases ho2 with h1 | ⟨k1, h1, h3⟩
    · rw [h1]
      exact hu.own
    · exact .inr ⟨k1, h1, by omega⟩

/-- What is left behind the trimming. -/
theorem add_trim {W1 : World} {g : Nat} {h' : Option Nat} {x : LogV} {e es : List E4} {b off n N cap' : Nat}
    (q2 : Blk W1 g 211 #[.int .i64 x.most, .slice (some ⟨b, off, none⟩) N cap', .int .i64 x.floor]) (q1 : Sl W1 144 4 (.slice (some ⟨b, off, none⟩) N cap') h' N (flatE es))
    (hN : es.length = N) (hn : n + 1 < N) (hadd : x.add e = ⟨x.most, es.drop (n + 1), (es[n]'(by omega)).m⟩) :
    LogAt ((W1.setCell ⟨g, 2, none⟩ (.int .i64 (es[n]'(by omega)).m)).setCell ⟨g, 1, none⟩ (.slice (some ⟨b, off + (n + 1) * 4, none⟩) (N - (n + 1)) (cap' - (n + 1)))) g h' (x.add e) := by
  have hne : h' ≠ some g := fun hh => q1.ne_blk q2 (by decide) g hh rfl
  rw [hadd]
  refine ⟨.slice (some ⟨b, off + (n + 1) * 4, none⟩) (N - (n + 1)) (cap' - (n + 1)), ?_, ?_⟩
  · exact (q2.set 2 _).set 1 _
  · have h1 := ((q1.cut (n + 1) hn).far (p := ⟨g, 2, none⟩) hne (.int .i64 (es[n]'(by omega)).m)).far (p := ⟨g, 1, none⟩) hne (.slice (some ⟨b, off + (n + 1) * 4, none⟩) (N - (n + 1)) (cap' - (n + 1)))
    rw [flatE_drop] at h1
    have hl : (es.drop (n + 1)).length = N - (n + 1) := by simp [hN]
    rw [hl]
    exact h1

set_option maxRecDepth 100000 in
set_option maxHeartbeats 2000000 in
theorem add_any (w : World) (g : Nat) (h : Option Nat) (x : LogV) (A : Option Addr) (cap : Nat) (e : List E4) (hl : LogAt w g h x) (hm1 : 1 ≤ x.most) (hm2 : x.most ≤ 1099511627776)
    (hn1 : x.es.length ≤ 1099511627776) (hn2 : e.length ≤ 1099511627776) (hr : RdE w A (g :: h.toList) e) :
    Calls Tryz.prog 69 #[.pointer (some ⟨g, 0, none⟩), .slice A e.length cap] w fun e' w' => e' = .returned (.tuple #[]) ∧
      ∃ h', LogAt w' g h' (x.add e) ∧ Chg (g :: h.toList) w w' ∧ (h' = h ∨ ∃ k, h' = some k ∧ w.heap.size ≤ k) := by
  obtain ⟨i0, hi, hz0, hz1, hz2⟩ := info_parts Try.infoEntry
  have hstart : AddRel w g h x e 0 x.es h w := ⟨rfl, by omega, hl, Chg.refl _ _, .inl rfl⟩
  have HS := Lib.hid hstart
  clear hstart hl
  have HR := Lib.hid hr
  clear hr
  obtain ⟨L, hL⟩ : ∃ L, e.length = L := ⟨_, rfl⟩
  rw [hL]
  rw [hL] at hn2
  have HL := Lib.hid hL
  clear hL
  go_enter Tryz.func69, Tryz.ntmps69
  go_upto_block 0 with (fail)
  go_cut [] (fun wx => ∃ (es : List E4) (h' : Option Nat), Hid (addLoop x.es e = es) ∧ LogAt wx g h' ⟨x.most, es, x.floor⟩ ∧ Chg (g :: h.toList) w wx ∧ (h' = h ∨ ∃ k, h' = some k ∧ w.heap.size ≤ k) ∧ es.length ≤ 2199023255552)
  case first =>
    go_wp2_with fail
    go_loopw [12] (fun i wr => ∃ (k : Nat) (es : List E4) (h' : Option Nat), k ≤ L ∧ i = .int .i64 k ∧ Hid (AddRel w g h x e k es h' wr)) (fun i _ => L - (intOf i).toNat)
    case atStart => exact ⟨0, _, _, Nat.zero_le _, rfl, HS⟩
    case round =>
      obtain ⟨k, es, h', hk, rfl, HU⟩ := hrel
      by_cases hlt : k < L
      · have hke : k < e.length := by rw [HL.out]; exact hlt
        obtain ⟨b, off, rfl, hbl, hbn, hcell⟩ := HR.out (by rintro rfl; simp at hke)
        have hrd : ∀ j, j < e.length * 4 → wr.cell? ⟨b, off + j, none⟩ = (flatE e)[j]? := fun j hj => (HU.out.chg.cell (p := ⟨b, off + j, none⟩) hbl hbn).trans (hcell j hj)
        obtain ⟨f0, f1, f2, f3⟩ := flatE_at e k hke
        have d0 : wr.cell? ⟨b, off + k * 4, none⟩ = some (.int .i64 e[k].m) := (hrd (k * 4) (by omega)).trans f0
        have d1 : wr.cell? ⟨b, off + k * 4 + 1, none⟩ = some (.int .i64 e[k].k) := (hrd (k * 4 + 1) (by omega)).trans f1
        have d2 : wr.cell? ⟨b, off + k * 4 + 2, none⟩ = some (.int .i64 e[k].i) := (hrd (k * 4 + 2) (by omega)).trans f2
        have d3 : wr.cell? ⟨b, off + k * 4 + 3, none⟩ = some (.int .i64 e[k].h) := (hrd (k * 4 + 3) (by omega)).trans f3
        clear hrd hcell f0 f1 f2 f3
        obtain ⟨v, hB, hsl⟩ := HU.out.log
        obtain ⟨A', cap', rfl, hnc, hcm⟩ := hsl.form
        have c1 : wr.cell? ⟨g, 1, none⟩ = some (.slice A' es.length cap') := hB.cell 1
        have hgl : g < wr.heap.size := hB.lt
        have hbl2 : b < wr.heap.size := Nat.lt_of_lt_of_le hbl HU.out.chg.size
        generalize he : e[k] = y at d0 d1 d2 d3
        have HE := Lib.hid he
        clear he
        have HB := Lib.hid hB
        have HSL := Lib.hid hsl
        have hn3 : es.length ≤ 2199023255552 := by have := HU.out.len; omega
        clear hB hsl
        by_cases hz : es.length = 0
        · have hes : es = [] := List.eq_nil_of_length_eq_zero hz
          subst hes
          simp only [List.length_nil] at c1 hnc hn3
          have hno : ¬ ∃ z ∈ ([] : List E4).getLast?, y.m < z.m := by simp
          clear hz
          go_wp2_with fail
          go_quiet (fail)
          go_wp2_with fail
          have q1 : Sl ((wr.alloc (.cells #[.int .i64 y.m, .int .i64 y.k, .int .i64 y.i, .int .i64 y.h] 144)).drewN nq) 144 4 (.slice A' 0 cap') h' 0 (flatE []) := (HSL.out.alloc _).heap rfl
          have q2 : Blk ((wr.alloc (.cells #[.int .i64 y.m, .int .i64 y.k, .int .i64 y.i, .int .i64 y.h] 144)).drewN nq) g 211 #[.int .i64 x.most, .slice A' 0 cap', .int .i64 x.floor] := (HB.out.alloc _).heap rfl
          have q3 : Blk ((wr.alloc (.cells #[.int .i64 y.m, .int .i64 y.k, .int .i64 y.i, .int .i64 y.h] 144)).drewN nq) wr.heap.size 144 #[.int .i64 y.m, .int .i64 y.k, .int .i64 y.i, .int .i64 y.h] := (Blk.new wr _ _).heap rfl
          have q4 : Chg (g :: h.toList) w ((wr.alloc (.cells #[.int .i64 y.m, .int .i64 y.k, .int .i64 y.i, .int .i64 y.h] 144)).drewN nq) := (HU.out.chg.alloc _).drewN _
          have q5 : ∀ b, h' = some b → b ≠ wr.heap.size := fun b hb => by have := HSL.out.lt b hb; omega
          generalize (wr.alloc (.cells #[.int .i64 y.m, .int .i64 y.k, .int .i64 y.i, .int .i64 y.h] 144)).drewN nq = W1 at q1 q2 q3 q4 ⊢
          have hX : wr.heap.size < W1.heap.size := q3.lt
          generalize wr.heap.size = X at q3 q5 hX ⊢
          have e1 : W1.cell? ⟨g, 1, none⟩ = some (.slice A' 0 cap') := q2.cell 1
          have e2 : W1.frozen? ⟨g, 1, none⟩ = false := q2.frozen 1
          have e3 : W1.cell? ⟨X, 0, none⟩ = some (.int .i64 y.m) := q3.cell 0
          have e4 : W1.cell? ⟨X, 1, none⟩ = some (.int .i64 y.k) := q3.cell 1
          have e5 : W1.cell? ⟨X, 2, none⟩ = some (.int .i64 y.i) := q3.cell 2
          have e6 : W1.cell? ⟨X, 3, none⟩ = some (.int .i64 y.h) := q3.cell 3
          have hgl1 : g < W1.heap.size := q2.lt
          have hgn : g ∉ h'.toList := fun hm => by
            simp at hm
            exact q1.ne_blk q2 (by decide) g hm rfl
          go_region_law (refine step_append_sl _ (by rfl) (.tmp 41) (.tmp 43) _ (by rfl) Tryz.underlying141 hi hz0 hz1 hz2 rfl (by omega) ((q1.alloc _).heap (by rfl)) (by simp [Act.eval]) W1.heap.size #[.int .i64 y.m, .int .i64 y.k, .int .i64 y.i, .int .i64 y.h] (e' := 144) (fr := (0, 0)) (heap_alloc_new W1 _) 1 1 (by simp [Act.eval]) (by rfl) (by simp [Value.oneCell']) (by unfold maxLen; omega) (by omega) ?_; intro v2 h2 w2 hs2 hc2 ho2; obtain ⟨A2, cap2, rfl, _, _⟩ := hs2.form; have hf2 : w2.frozen? ⟨g, 1, none⟩ = false := (hc2.frozen (p := ⟨g, 1, none⟩) (by simp; omega) hgn).trans ((World.frozen?_alloc_past _ _ _ hgl1).trans e2); have hf3 : w2.cell? ⟨g, 1, none⟩ = some (.slice A' 0 cap') := (hc2.cell (p := ⟨g, 1, none⟩) (by simp; omega) hgn).trans ((World.cell?_alloc_past _ _ _ hgl1).trans e1))
          all_goals
            have hrel := add_step HU.out hke HE.out hno q2 q1 q4 hs2 hc2 ho2
            have HREL := Lib.hid hrel
            clear hrel hs2 hc2 ho2
            go_wp2
            refine ⟨?_, by simp [intOf]; omega⟩
            first | exact ⟨k + 1, _, _, by omega, by go_num, HREL⟩ | ((repeat apply Exists.intro); exact ⟨⟨k + 1, _, _, by omega, by go_num, HREL⟩, rfl⟩)
        · obtain ⟨es0, z, rfl⟩ : ∃ es0 z, es = es0 ++ [z] := ⟨es.dropLast, es.getLast (by rintro rfl; simp at hz), (List.dropLast_concat_getLast _).symm⟩
          have hN : (es0 ++ [z]).length = es0.length + 1 := by simp
          rw [hN] at c1 hnc hn3 HB HSL
          obtain ⟨ab, aoff, acap, hh', hva, _, _, hbl3, hat⟩ := HSL.out.at_ (by omega)
          injection hva with hva1 hva2 hva3
          subst hva1
          subst hva3
          have hzc : wr.cell? ⟨ab, aoff + es0.length * 4, none⟩ = some (.int .i64 z.m) := by
            have h1 := (hat (es0.length * 4) (by omega)).1
            rw [h1]
            have h2 := (flatE_at (es0 ++ [z]) es0.length (by simp)).1
            rw [h2]
            simp
          clear hat
          have hlast : (es0 ++ [z]).getLast? = some z := by simp
          generalize hNN : es0.length = N at c1 hnc hn3 HB HSL hzc
          have HNN := Lib.hid hNN
          clear hNN hN hz
          have w1 : IntKind.i64.wrap ((N : Int) + 1 - 1) = (N : Int) := by rw [show (N : Int) + 1 - 1 = N from by omega]; exact IntWalk.i64_in _ (by omega)
          by_cases hbr : y.m < z.m
          · have hloop : addLoop x.es e = es0 ++ [z] := by
              rw [HU.out.loop, List.drop_eq_getElem_cons hke, HE.out, addLoop, if_pos]
              rw [hlast]
              simpa using hbr
            have HF := Lib.hid hloop
            clear hloop
            go_wp2_with fail
            go_quiet (fail)
            go_wp2_with fail
            go_meet
            exact ⟨_, h', HF, HU.out.log.moved rfl, ((HU.out.chg.alloc _).drewN _), HU.out.own, by simp [HNN.out]; omega⟩
          · have hno : ¬ ∃ u ∈ (es0 ++ [z]).getLast?, y.m < u.m := by
              rw [hlast]
              simpa using hbr
            go_wp2_with fail
            go_quiet (fail)
            go_wp2_with fail
            have q1 : Sl ((wr.alloc (.cells #[.int .i64 y.m, .int .i64 y.k, .int .i64 y.i, .int .i64 y.h] 144)).drewN nq) 144 4 (.slice (some ⟨ab, aoff, none⟩) (N + 1) cap') h' (N + 1) (flatE (es0 ++ [z])) := (HSL.out.alloc _).heap rfl
            have q2 : Blk ((wr.alloc (.cells #[.int .i64 y.m, .int .i64 y.k, .int .i64 y.i, .int .i64 y.h] 144)).drewN nq) g 211 #[.int .i64 x.most, .slice (some ⟨ab, aoff, none⟩) (N + 1) cap', .int .i64 x.floor] := (HB.out.alloc _).heap rfl
            have q3 : Blk ((wr.alloc (.cells #[.int .i64 y.m, .int .i64 y.k, .int .i64 y.i, .int .i64 y.h] 144)).drewN nq) wr.heap.size 144 #[.int .i64 y.m, .int .i64 y.k, .int .i64 y.i, .int .i64 y.h] := (Blk.new wr _ _).heap rfl
            have q4 : Chg (g :: h.toList) w ((wr.alloc (.cells #[.int .i64 y.m, .int .i64 y.k, .int .i64 y.i, .int .i64 y.h] 144)).drewN nq) := (HU.out.chg.alloc _).drewN _
            have q5 : ∀ b, h' = some b → b ≠ wr.heap.size := fun b hb => by have := HSL.out.lt b hb; omega
            generalize (wr.alloc (.cells #[.int .i64 y.m, .int .i64 y.k, .int .i64 y.i, .int .i64 y.h] 144)).drewN nq = W1 at q1 q2 q3 q4 ⊢
            have hX : wr.heap.size < W1.heap.size := q3.lt
            generalize wr.heap.size = X at q3 q5 hX ⊢
            have e1 : W1.cell? ⟨g, 1, none⟩ = some (.slice (some ⟨ab, aoff, none⟩) (N + 1) cap') := q2.cell 1
            have e2 : W1.frozen? ⟨g, 1, none⟩ = false := q2.frozen 1
            have e3 : W1.cell? ⟨X, 0, none⟩ = some (.int .i64 y.m) := q3.cell 0
            have e4 : W1.cell? ⟨X, 1, none⟩ = some (.int .i64 y.k) := q3.cell 1
            have e5 : W1.cell? ⟨X, 2, none⟩ = some (.int .i64 y.i) := q3.cell 2
            have e6 : W1.cell? ⟨X, 3, none⟩ = some (.int .i64 y.h) := q3.cell 3
            have hgl1 : g < W1.heap.size := q2.lt
            have hgn : g ∉ h'.toList := fun hm => by
              simp at hm
              exact q1.ne_blk q2 (by decide) g hm rfl
            go_region_law (refine step_append_sl _ (by rfl) (.tmp 41) (.tmp 43) _ (by rfl) Tryz.underlying141 hi hz0 hz1 hz2 rfl (by omega) ((q1.alloc _).heap (by rfl)) (by simp [Act.eval]) W1.heap.size #[.int .i64 y.m, .int .i64 y.k, .int .i64 y.i, .int .i64 y.h] (e' := 144) (fr := (0, 0)) (heap_alloc_new W1 _) 1 1 (by simp [Act.eval]) (by rfl) (by simp [Value.oneCell']) (by unfold maxLen; omega) (by omega) ?_; intro v2 h2 w2 hs2 hc2 ho2; obtain ⟨A2, cap2, rfl, _, _⟩ := hs2.form; have hf2 : w2.frozen? ⟨g, 1, none⟩ = false := (hc2.frozen (p := ⟨g, 1, none⟩) (by simp; omega) hgn).trans ((World.frozen?_alloc_past _ _ _ hgl1).trans e2); have hf3 : w2.cell? ⟨g, 1, none⟩ = some (.slice (some ⟨ab, aoff, none⟩) (N + 1) cap') := (hc2.cell (p := ⟨g, 1, none⟩) (by simp; omega) hgn).trans ((World.cell?_alloc_past _ _ _ hgl1).trans e1))
            all_goals
              have hrel := add_step HU.out hke HE.out hno q2 q1 q4 hs2 hc2 ho2
              have HREL := Lib.hid hrel
              clear hrel hs2 hc2 ho2
              go_wp2
              refine ⟨?_, by simp [intOf]; omega⟩
              first | exact ⟨k + 1, _, _, by omega, by go_num, HREL⟩ | ((repeat apply Exists.intro); exact ⟨⟨k + 1, _, _, by omega, by go_num, HREL⟩, rfl⟩)
      · have hkL : k = L := by omega
        subst hkL
        have hloop : addLoop x.es e = es := by
          rw [HU.out.loop, List.drop_of_length_le (by rw [HL.out]; exact Nat.le_refl _)]
          rfl
        have HF := Lib.hid hloop
        clear hloop
        go_wp2_with fail
        go_meet
        exact ⟨_, h', HF, HU.out.log, HU.out.chg, HU.out.own, by have := HU.out.len; omega⟩
  case rest =>
    obtain ⟨es, h', HF, hlog, hchg, hown, hlen⟩ := hcut
    obtain ⟨v, q2a, q1a⟩ := hlog
    have q2 : Blk wc g 211 #[.int .i64 x.most, v, .int .i64 x.floor] := q2a
    have q1 : Sl wc 144 4 v h' es.length (flatE es) := q1a
    clear q1a q2a
    obtain ⟨A', cap', rfl, hnc, hcm⟩ := q1.form
    obtain ⟨M, hM⟩ : ∃ M : Nat, x.most = (M : Int) := ⟨x.most.toNat, by omega⟩
    have c0 : wc.cell? ⟨g, 0, none⟩ = some (.int .i64 (M : Int)) := by rw [← hM]; exact q2.cell 0
    have c1 : wc.cell? ⟨g, 1, none⟩ = some (.slice A' es.length cap') := q2.cell 1
    have c2 : wc.cell? ⟨g, 2, none⟩ = some (.int .i64 x.floor) := q2.cell 2
    have f1 : wc.frozen? ⟨g, 1, none⟩ = false := q2.frozen 1
    have f2 : wc.frozen? ⟨g, 2, none⟩ = false := q2.frozen 2
    have HQ2 := Lib.hid q2
    have HQ1 := Lib.hid q1
    have HC := Lib.hid hchg
    have HO := Lib.hid hown
    clear q2 q1 hchg hown HR HS
    by_cases htrim : M < es.length
    · obtain ⟨n, hn⟩ : ∃ n, es.length = M + (n + 1) := ⟨es.length - M - 1, by omega⟩
      have hwr : IntKind.i64.wrap ((es.length : Int) - (M : Int)) = (n : Int) + 1 := by
        rw [show (es.length : Int) - (M : Int) = (n : Int) + 1 from by omega]
        exact IntWalk.i64_in _ (by omega)
      obtain ⟨b, off, acap, hh, hva, _, _, hbl, hat⟩ := HQ1.out.at_ (by omega)
      injection hva with hva1 _ hva3
      subst hva1
      subst hva3
      have hnlt : n < es.length := by omega
      have hzc : wc.cell? ⟨b, off + n * 4, none⟩ = some (.int .i64 es[n].m) := by
        have h1 := (hat (n * 4) (by omega)).1
        rw [h1]
        exact (flatE_at es n hnlt).1
      clear hat
      have hadd : x.add e = ⟨x.most, es.drop (n + 1), es[n].m⟩ := by
        unfold LogV.add
        rw [HF.out, hM, if_pos (by omega), show ((es.length : Int) - (M : Int)).toNat = n + 1 from by omega]
        simp [List.getElem?_eq_getElem hnlt]
      have hcap : ¬ cap' = n + 1 := by omega
      have hfin := add_trim (e := e) (x := x) HQ2.out HQ1.out rfl (show n + 1 < es.length by omega) hadd
      have HFIN := Lib.hid hfin
      have hl1 : n + 1 ≤ es.length := by omega
      have HN := Lib.hid hn
      have HCH : Hid (Chg (g :: h.toList) w ((wc.setCell ⟨g, 2, none⟩ (.int .i64 es[n].m)).setCell ⟨g, 1, none⟩ (.slice (some ⟨b, off + (n + 1) * 4, none⟩) (es.length - (n + 1)) (cap' - (n + 1))))) :=
        (HC.out.set (p := ⟨g, 2, none⟩) (.inl (by simp)) _).set (p := ⟨g, 1, none⟩) (.inl (by simp)) _
      have hm3 : 1 ≤ (M : Int) := by omega
      generalize es[n].m = zm at hzc HFIN HCH
      clear hfin hadd hm1 hm2 hn hM
      go_wp2_with fail
      go_quiet (fail)
      go_wp2
      go_end0
      exact ⟨rfl, h', HFIN.out.heap rfl, HCH.out.heap rfl rfl rfl rfl, HO.out⟩
    · have hwr : IntKind.i64.wrap ((es.length : Int) - (M : Int)) = (es.length : Int) - (M : Int) := IntWalk.i64_in _ (by omega)
      have hadd : x.add e = ⟨x.most, es, x.floor⟩ := by
        unfold LogV.add
        rw [HF.out, hM, if_neg (by omega)]
      have HFIN : Hid (LogAt wc g h' (x.add e)) := by
        rw [hadd]
        exact ⟨_, HQ2.out, HQ1.out⟩
      have hle : (es.length : Int) - (M : Int) ≤ 0 := by omega
      clear hadd hM
      go_wp2_with fail
      go_quiet (fail)
      go_wp2
      go_end0
      exact ⟨rfl, h', HFIN.out.heap rfl, HC.out.heap rfl rfl rfl rfl, HO.out⟩

end Go.Proofs.YtgkfknbhkonfdaaGreatDoor

namespace Go.Proofs.YtgkfknbhkonfdaaGreatDoor
open Go.RowKit

theorem cells_of_rds {w : World} {size n : Nat} {xs : List Value} (a : Addr) (hlen : xs.length = n * size) (h : 0 < n → a.spot = none ∧ a.block < w.heap.size ∧ a.block ∉ ([] : List Nat) ∧ ∀ j, j < n * size → w.cell? ⟨a.block, a.off + j, none⟩ = xs[j]?) :
    ∀ j u, xs[j]? = some u → w.cell? (a.add j) = some u := by
  intro j u hu
  have hj : j < n * size := by
    have := (List.getElem?_eq_some_iff.1 hu).1
    omega
  have hn : 0 < n := by
    rcases Nat.eq_zero_or_pos n with h0 | h0
    · subst h0
      omega
    · exact h0
  obtain ⟨r1, _, _, r4⟩ := h hn
  obtain ⟨b, off, sp⟩ := a
  simp only at r1 r4
  subst r1
  rw [Addr.add_lit, r4 j hj, hu]

theorem slOwn_empty (w : World) (e : TypeId) (size : Nat) : Sl (w.alloc (.cells #[] e)) e size (.slice (some ⟨w.heap.size, 0, none⟩) 0 0) (some w.heap.size) 0 [] :=
  ⟨by simp, .inr ⟨w.heap.size, 0, 0, #[], rfl, rfl, Blk.new _ _ _, Nat.le_refl _, Nat.zero_le _, by simp, by simp⟩⟩
theorem flatE_one (l : List E4) : ∀ u ∈ flatE l, u.oneCell' = true := by
  intro u hu
  obtain ⟨e, _, he⟩ := List.mem_flatMap.1 hu
  exact encE_one e u he

end Go.Proofs.YtgkfknbhkonfdaaGreatDoor

namespace Go.Proofs.YtgkfknbhkonfdaaGreatDoor
open Go.RowKit

section
variable {α : Type} {k : Nat} {enc : α → List Value}

def flatG (enc : α → List Value) (l : List α) : List Value := l.flatMap enc

theorem flatG_nil (enc : α → List Value) : flatG enc [] = [] := rfl
theorem flatG_cons (x : α) (l : List α) : flatG enc (x :: l) = enc x ++ flatG enc l := by simp [flatG]
theorem flatG_append (a b : List α) : flatG enc (a ++ b) = flatG enc a ++ flatG enc b := by simp [flatG]
theorem flatG_snoc (a : List α) (x : α) : flatG enc (a ++ [x]) = flatG enc a ++ enc x := by simp [flatG]
theorem flatG_length (he : ∀ x, (enc x).length = k) : ∀ l : List α, (flatG enc l).length = l.length * k
  | [] => by simp [flatG]
  | x :: l => by
    rw [flatG_cons, List.length_append, flatG_length he l, List.length_cons, he, Nat.add_mul, Nat.one_mul, Nat.add_comm]
theorem flatG_get (he : ∀ x, (enc x).length = k) : ∀ (l : List α) (i j : Nat) (hi : i < l.length), j < k → (flatG enc l)[i * k + j]? = (enc l[i])[j]?
  | x :: l, 0, j, _, hj => by
    rw [flatG_cons, Nat.zero_mul, Nat.zero_add, List.getElem?_append_left (by rw [he]; exact hj)]
    rfl
  | x :: l, i + 1, j, hi, hj => by
    rw [flatG_cons, List.getElem?_append_right (by rw [he, Nat.add_mul]; omega)]
    have : (i + 1) * k + j - (enc x).length = i * k + j := by rw [he, Nat.add_mul]; omega
    rw [this, flatG_get he l i j (by simpa using hi) hj]
    rfl
theorem flatG_drop (he : ∀ x, (enc x).length = k) (l : List α) (i : Nat) : (flatG enc l).drop (i * k) = flatG enc (l.drop i) := by
  induction i generalizing l with
  | zero => simp
  | succ i ih =>
    cases l with
    | nil => simp [flatG]
    | cons x l =>
      rw [flatG_cons, List.drop_succ_cons, ← ih l, show (i + 1) * k = (enc x).length + i * k from by rw [he, Nat.add_mul]; omega, List.drop_append, Nat.add_sub_cancel_left, List.drop_of_length_le (Nat.le_add_right _ _), List.nil_append]
theorem flatG_take (he : ∀ x, (enc x).length = k) (l : List α) (i : Nat) : (flatG enc l).take (i * k) = flatG enc (l.take i) := by
  induction i generalizing l with
  | zero => simp [flatG]
  | succ i ih =>
    cases l with
    | nil => simp [flatG]
    | cons x l =>
      rw [flatG_cons, List.take_succ_cons, flatG_cons, ← ih l, show (i + 1) * k = (enc x).length + i * k from by rw [he, Nat.add_mul]; omega, List.take_append, Nat.add_sub_cancel_left, List.take_of_length_le (Nat.le_add_right _ _)]
theorem flatG_one (h1 : ∀ x, ∀ u ∈ enc x, u.oneCell' = true) (l : List α) : ∀ u ∈ flatG enc l, u.oneCell' = true := by
  intro u hu
  obtain ⟨x, _, hx⟩ := List.mem_flatMap.1 hu
  exact h1 x u hx
/-- One cell of one element stored: the element is another one. -/
theorem flatG_set (he : ∀ x, (enc x).length = k) : ∀ (l : List α) (i j : Nat) (hi : i < l.length), j < k → ∀ (u : Value) (y : α), enc y = (enc l[i]).set j u → (flatG enc l).set (i * k + j) u = flatG enc (l.set i y)
  | x :: l, 0, j, _, hj, u, y, hy => by
    rw [flatG_cons, Nat.zero_mul, Nat.zero_add, List.set_append_left _ _ (by rw [he]; exact hj), List.set_cons_zero, flatG_cons, hy]
    rfl
  | x :: l, i + 1, j, hi, hj, u, y, hy => by
    rw [flatG_cons, List.set_append_right _ _ (by rw [he, Nat.add_mul]; omega), List.set_cons_succ, flatG_cons]
    have : (i + 1) * k + j - (enc x).length = i * k + j := by rw [he, Nat.add_mul]; omega
    rw [this, flatG_set he l i j (by simpa using hi) hj u y hy]
end

end Go.Proofs.YtgkfknbhkonfdaaGreatDoor

namespace Go.Proofs.YtgkfknbhkonfdaaGreatDoor
open Go Go.RowKit

/-- What an iterator owes whose state lies in cell 0 of block B. -/
def SeqStopsC {α : Type} (F : Fence) (n : Nat) (P : Program) (g : Nat) (lb : Array Value) (encs : α → Array Value) (Kp : World → World → Prop) (B : Nat) (S Sp : List α → Prop) (N : Nat) (w : World) : Prop :=
  ∀ (l : Nat) (J Jx : List α → World → Prop) (W : World), Below w.heap.size w W → (∀ pre A A', J pre A → Chg [B] A A' → J pre A') → (∀ pre A A', Jx pre A → Chg [B] A A' → Jx pre A') →
    (∀ pre x W1, J pre W1 → pre.length < N → YieldAt F (n - 1) P l (encs x) W1 fun e W' =>
      (e = .returned (.bool true) ∧ J (pre ++ [x]) W' ∧ Kp W1 W') ∨ (e = .returned (.bool false) ∧ Jx (pre ++ [x]) W')) →
    J [] W →
    CallsIn F n P g (#[.func (.yield l) #[] #[]] ++ lb) W fun e W' => (∃ v, e = .returned v) ∧ ((∃ xs, S xs ∧ J xs W') ∨ (∃ pre, Sp pre ∧ Jx pre W'))

variable {F : Fence} {n : Nat} {P : Program}

theorem wpIn_rangeFunc_ownC {α : Type} {g : Operand} {ps : Array Tmp} {assign body : Code} {Q : Exit → Act → World → Prop} {a : Act} {w : World}
    (hro : F.round = none) (h1 : 1 ≤ n) {gf : Nat} {lb : Array Value} (hg : a.eval g = .func (.func gf) #[] lb) (hFg : F.fn gf) (eg : ∀ args w, (callFunc gf args).run P w = .ok (.enter gf args) w)
    {encs : α → Array Value} {Kp : World → World → Prop} {B : Nat} {S Sp : List α → Prop} {N : Nat} (hseq : SeqStopsC F (n - 1) P gf lb encs Kp B S Sp N w) (hB : B < w.heap.size)
    (hKt : ∀ {A B C : World}, Kp A B → Kp B C → Kp A C) (hKb : ∀ (W : World) (l : Nat) (o o' : Obj), w.heap.size ≤ l → W.heap[l]? = some o → o.isCells = false → o.isWalk = false → Kp W (W.putObj l o')) (hps : ∀ x, (encs x).size = ps.size)
    (I : List α → World → Prop) (Ix : Code → List α → World → Prop) (hI : OwnFrom w.heap.size I) (hIx : ∀ c, OwnFrom w.heap.size (Ix c)) (hIB : ∀ pre A A', I pre A → Chg [B] A A' → I pre A') (hIxB : ∀ c pre A A', Ix c pre A → Chg [B] A A' → Ix c pre A') (h0 : I [] w) (a₁ : α → Act)
    (hassign : ∀ (l : Nat) (x : α) (W : World) (K : Act → World → Prop), K (a₁ x) W →
      assign.wpIn (F.inRound l) (n - 1 - 1) P (Exit.then K (fun _ _ _ => False)) { tmps := (ps.zip (encs x)).foldl (fun t (p, v) => t.setIfInBounds p v) a.tmps, defers := [] } W)
    (hbody : ∀ (l : Nat) (pre : List α) (x : α) (W : World), I pre W → pre.length < N → body.wpIn (F.inRound l) (n - 1 - 1) P (ownPostK Kp I Ix (pre ++ [x]) W) (a₁ x) W)
    (hdone : ∀ (D : Nat) (xs : List α) (W : World), w.heap.size ≤ D → S xs → I xs W → W.heap[D]? = some (.deferred (some [])) → Q .normal { a with defers := { target := .collected D, args := #[] } :: a.defers } W)
    (hstop : ∀ (D : Nat) (c : Code) (pre : List α) (W : World), w.heap.size ≤ D → Sp pre → Ix c pre W → W.heap[D]? = some (.deferred (some [])) → c.wpIn F n P Q { a with defers := { target := .collected D, args := #[] } :: a.defers } W) :
    (Code.rangeFunc g ps assign body).wpIn F n P Q a w := by
  refine wpIn_rangeFunc ?_
  intro fn hfn
  rw [hro]
  obtain ⟨rec, hrec⟩ : ∃ rec : LoopState → Option Code → Loop, rec = fun st pe => { state := st, pending := pe, fn, tmps := a.tmps, params := ps, assign, body, defers := w.heap.size } := ⟨_, rfl⟩
  obtain ⟨W1, hW1⟩ : ∃ W1, (w.alloc (.deferred (some []))).alloc (.loop (rec .ready none)) = W1 := ⟨_, rfl⟩
  have hL1 : W1.heap[w.heap.size + 1]? = some (.loop (rec .ready none)) := by
    rw [← hW1]; have := World.alloc_heap_new (w.alloc (.deferred (some []))) (.loop (rec .ready none)); rwa [World.size_alloc] at this
  have hK1 : W1.heap[w.heap.size]? = some (.deferred (some [])) := by
    rw [← hW1]; exact (Below.heap_alloc _ _ _ (by simp)).trans (World.alloc_heap_new w _)
  have hI1 : I [] W1 := by rw [← hW1]; exact hI.alloc _ (hI.alloc _ h0)
  have hb1 : Below w.heap.size w W1 := by
    rw [← hW1]; exact ((Below.refl _ w).alloc (Nat.le_refl _) _).alloc (by simp) _
  refine ⟨w.heap.size + 1, [{ target := .collected w.heap.size, args := #[] }], W1, { target := .fn (.func gf) lb, args := #[.func (.yield (w.heap.size + 1)) #[] #[]] }, W1, gf,
    #[.func (.yield (w.heap.size + 1)) #[] #[]] ++ lb, W1, ?_, ?_, ?_, ?_, fun _ => h1, ?_⟩
  · rw [← hW1, hrec]; exact run_enterLoop_outer _ _ _ _ _
  · simp only [resolve, hg]
    simp [go_sem]
  · intro f' hf'; simp [Target.leads] at hf'; subst hf'; exact hFg
  · simp [invoke, go_sem, eg]
  · refine (hseq (w.heap.size + 1)
      (fun pre W => I pre W ∧ W.heap[w.heap.size + 1]? = some (.loop (rec .ready none)) ∧ W.heap[w.heap.size]? = some (.deferred (some [])))
      (fun pre W => ∃ c, Ix c pre W ∧ W.heap[w.heap.size + 1]? = some (.loop (rec .done (some c))) ∧ W.heap[w.heap.size]? = some (.deferred (some [])))
      W1 hb1
      (fun pre A A' hs hc => ⟨hIB pre A A' hs.1 hc, (hc.block _ (Array.getElem?_eq_some_iff.1 hs.2.1).1 (by simp; omega)).trans hs.2.1, (hc.block _ (Array.getElem?_eq_some_iff.1 hs.2.2).1 (by simp; omega)).trans hs.2.2⟩)
      (fun pre A A' hs hc => by
        obtain ⟨c, h1, h2, h3⟩ := hs
        exact ⟨c, hIxB c pre A A' h1 hc, (hc.block _ (Array.getElem?_eq_some_iff.1 h2).1 (by simp; omega)).trans h2, (hc.block _ (Array.getElem?_eq_some_iff.1 h3).1 (by simp; omega)).trans h3⟩)
      ?_ ⟨hI1, hL1, hK1⟩).mono ?_
    · rintro pre x W ⟨hi, hl, hk⟩ hlen
      have hlt : w.heap.size + 1 < W.heap.size := (Array.getElem?_eq_some_iff.1 hl).1
      have hy := run_yield (P := P) (args := encs x) hl (by rw [hrec]; exact hps x)
      rw [hrec] at hy
      refine ⟨fn, _, assign, body, hy, roundIn_of_wpIn hfn (hassign _ x W _ ⟨_, run_beginRound hl (by rw [hrec]), ?_⟩)⟩
      have hl2 : (W.putObj (w.heap.size + 1) (.loop { rec .ready none with state := .busy })).heap[w.heap.size + 1]? = some (.loop { rec .ready none with state := .busy }) := World.putObj_heap_same hlt
      have hk2 : (W.putObj (w.heap.size + 1) (.loop { rec .ready none with state := .busy })).heap[w.heap.size]? = some (.deferred (some [])) := (World.putObj_heap_other (by omega)).trans hk
      have hw2 : Kp W (W.putObj (w.heap.size + 1) (.loop { rec .ready none with state := .busy })) := hKb _ _ _ _ (by omega) hl rfl rfl
      refine wpIn_mono (hbody _ pre x _ (hI.putObj _ hi (by omega) hl rfl) hlen) ?_
      have fin : ∀ (jump : Option Code) (W3 : World), KeepsOthers (W.putObj (w.heap.size + 1) (.loop { rec .ready none with state := .busy })) W3 →
          (Instr.endRound (w.heap.size + 1) jump).run P W3 = .ok (.bool jump.isNone) (W3.putObj (w.heap.size + 1) (.loop (rec (if jump.isNone then .ready else .done) jump))) ∧
          W3.heap[w.heap.size + 1]? = some (.loop { rec .ready none with state := .busy }) ∧
          (W3.putObj (w.heap.size + 1) (.loop (rec (if jump.isNone then .ready else .done) jump))).heap[w.heap.size + 1]? = some (.loop (rec (if jump.isNone then .ready else .done) jump)) ∧
          (W3.putObj (w.heap.size + 1) (.loop (rec (if jump.isNone then .ready else .done) jump))).heap[w.heap.size]? = some (.deferred (some [])) := fun jump W3 hk3 => by
        have hl3 := hk3.same _ _ hl2 rfl
        have := run_endRound (P := P) jump hl3
        rw [hrec] at this ⊢
        exact ⟨this, by rw [hrec] at hl3; exact hl3, World.putObj_heap_same (Array.getElem?_eq_some_iff.1 hl3).1, (World.putObj_heap_other (by omega)).trans (hk3.same _ _ hk2 rfl)⟩
      rintro e a3 W3 hp
      cases e with
      | normal =>
        obtain ⟨hk3, hkp3, hi3⟩ := hp
        obtain ⟨hr, hl3, hl4, hk4⟩ := fin none W3 hk3
        exact ⟨_, _, hr, .inl ⟨rfl, ⟨hI.putObj _ hi3 (by omega) hl3 rfl, hl4, hk4⟩, hKt (hKt hw2 hkp3) (hKb _ _ _ _ (by omega) hl3 rfl rfl)⟩⟩
      | ret =>
        obtain ⟨hk3, hi3⟩ := hp
        obtain ⟨hr, hl3, hl4, hk4⟩ := fin (some .ret) W3 hk3
        exact ⟨_, _, hr, .inr ⟨rfl, .ret, (hIx _).putObj _ hi3 (by omega) hl3 rfl, hl4, hk4⟩⟩
      | exit id =>
        obtain ⟨hk3, hi3⟩ := hp
        obtain ⟨hr, hl3, hl4, hk4⟩ := fin (some (.exit id)) W3 hk3
        exact ⟨_, _, hr, .inr ⟨rfl, .exit id, (hIx _).putObj _ hi3 (by omega) hl3 rfl, hl4, hk4⟩⟩
      | goto t =>
        obtain ⟨hk3, hi3⟩ := hp
        obtain ⟨hr, hl3, hl4, hk4⟩ := fin (some (.goto t)) W3 hk3
        exact ⟨_, _, hr, .inr ⟨rfl, .goto t, (hIx _).putObj _ hi3 (by omega) hl3 rfl, hl4, hk4⟩⟩
      | panic ch => exact hp.elim
      | outgrown => exact hp.elim
    · rintro e W2 ⟨⟨v, rfl⟩, (⟨xs, hS, hi, hl, hk⟩ | ⟨pre, hSp, c, hi, hl, hk⟩)⟩
      · exact ⟨none, _, by have := run_endLoop (P := P) hl (by rw [hrec]; simp); rw [hrec] at this; exact this, hdone _ xs _ (Nat.le_refl _) hS (hI.putObj _ hi (by omega) hl rfl) ((World.putObj_heap_other (by omega)).trans hk)⟩
      · exact ⟨some c, _, by have := run_endLoop (P := P) hl (by rw [hrec]; simp); rw [hrec] at this; exact this, hstop _ c pre _ (Nat.le_refl _) hSp ((hIx c).putObj _ hi (by omega) hl rfl) ((World.putObj_heap_other (by omega)).trans hk)⟩

end Go.Proofs.YtgkfknbhkonfdaaGreatDoor
