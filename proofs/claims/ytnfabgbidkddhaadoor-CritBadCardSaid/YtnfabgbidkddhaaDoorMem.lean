/-
  Memory in words of this seat: a block known whole, what a step has turned, a slice that the call's own memory holds (at any offset), and append onto it. Over any program.
-/
import Derived.Test.YtnfabgbidkddhaaDoorKit
import Derived.RegionTactic
import Derived.Deep.Draws
namespace Go.Proofs.YtnfabgbidkddhaaDoor
open Go.RowKit

/-- Block g is just the cells cs of element type t, none frozen. -/
def Blk (w : World) (g : Nat) (t : TypeId) (cs : Array Value) : Prop := w.heap[g]? = some (.cells cs t (0, 0))

/-- From w to w' only the blocks named, and new ones, have turned. -/
structure Chg (S : List Nat) (w w' : World) : Prop where
  os : w'.os = w.os
  tape : w'.tape = w.tape
  output : w'.output = w.output
  size : w.heap.size ≤ w'.heap.size
  block : ∀ k, k < w.heap.size → k ∉ S → w'.heap[k]? = w.heap[k]?

section
variable {w w' w'' : World} {g : Nat} {t : TypeId} {cs : Array Value} {S T : List Nat}

theorem Blk.lt (h : Blk w g t cs) : g < w.heap.size := by
  rcases Nat.lt_or_ge g w.heap.size with hlt | hge
  · exact hlt
  · unfold Blk at h
    rw [Array.getElem?_eq_none hge] at h
    cases h
theorem Blk.cell (h : Blk w g t cs) (i : Nat) : w.cell? ⟨g, i, none⟩ = cs[i]? := cell_of_row w g i cs t (0, 0) h
theorem Blk.frozen (h : Blk w g t cs) (i : Nat) : w.frozen? ⟨g, i, none⟩ = false := by
  unfold Blk at h
  simp [World.frozen?, h]
theorem Blk.new (w : World) (t : TypeId) (cs : Array Value) : Blk (w.alloc (.cells cs t)) w.heap.size t cs := heap_alloc_new w _
theorem Blk.heap (h : Blk w g t cs) (e : w'.heap = w.heap) : Blk w' g t cs := by
  unfold Blk at h ⊢
  rw [e]
  exact h
theorem Blk.alloc (h : Blk w g t cs) (o : Obj) : Blk (w.alloc o) g t cs := (Below.heap_alloc w o g h.lt).trans h
theorem Blk.chg (h : Blk w g t cs) (hc : Chg S w w') (hg : g ∉ S) : Blk w' g t cs := (hc.block g h.lt hg).trans h
theorem Blk.below {B : Nat} (h : Blk w g t cs) (hb : Below B w w') (hg : g < B) : Blk w' g t cs := (hb.block g hg).trans h
theorem Blk.set (h : Blk w g t cs) (i : Nat) (u : Value) : Blk (w.setCell ⟨g, i, none⟩ u) g t (cs.setIfInBounds i u) := by
  unfold Blk at h ⊢
  simp [World.setCell, Array.getElem?_modify, h]
theorem Blk.far (h : Blk w g t cs) {p : Addr} (hp : g ≠ p.block) (u : Value) : Blk (w.setCell p u) g t cs := (Below.heap_setCell w p u g hp).trans h
theorem Blk.inj {t' : TypeId} {cs' : Array Value} (h : Blk w g t cs) (h' : Blk w g t' cs') : t = t' ∧ cs = cs' := by
  unfold Blk at h h'
  rw [h] at h'
  simp only [Option.some.injEq, Obj.cells.injEq, and_true] at h'
  exact ⟨h'.2, h'.1⟩
theorem Blk.ne {g' : Nat} {t' : TypeId} {cs' : Array Value} (h : Blk w g t cs) (h' : Blk w g' t' cs') (hne : t ≠ t') : g ≠ g' := by
  rintro rfl
  exact hne (h.inj h').1

theorem Chg.refl (S : List Nat) (w : World) : Chg S w w := ⟨rfl, rfl, rfl, Nat.le_refl _, fun _ _ _ => rfl⟩
theorem Chg.mono (h : Chg S w w') (hs : ∀ k ∈ S, k ∈ T ∨ w.heap.size ≤ k) : Chg T w w' :=
  ⟨h.os, h.tape, h.output, h.size, fun k hk hn => h.block k hk (fun hm => by
    rcases hs k hm with h1 | h1
    · exact hn h1
    · omega)⟩
theorem Chg.trans (h : Chg S w w') (k : Chg T w' w'') (hs : ∀ i ∈ T, i ∈ S ∨ w.heap.size ≤ i) : Chg S w w'' :=
  ⟨k.os.trans h.os, k.tape.trans h.tape, k.output.trans h.output, Nat.le_trans h.size k.size, fun i hi hn =>
    (k.block i (Nat.lt_of_lt_of_le hi h.size) (fun hm => by
      rcases hs i hm with h1 | h1
      · exact hn h1
      · omega)).trans (h.block i hi hn)⟩
theorem Chg.alloc (h : Chg S w w') (o : Obj) : Chg S w (w'.alloc o) :=
  ⟨h.os, h.tape, h.output, Nat.le_trans h.size (by simp), fun k hk hn => (Below.heap_alloc w' o k (Nat.lt_of_lt_of_le hk h.size)).trans (h.block k hk hn)⟩
theorem Chg.heap (h : Chg S w w') (e : w''.heap = w'.heap) (e1 : w''.os = w'.os) (e2 : w''.tape = w'.tape) (e3 : w''.output = w'.output) : Chg S w w'' :=
  ⟨e1.trans h.os, e2.trans h.tape, e3.trans h.output, by rw [e]; exact h.size, fun k hk hn => by rw [e]; exact h.block k hk hn⟩
theorem Chg.drewN (h : Chg S w w') (n : Nat) : Chg S w (w'.drewN n) := h.heap rfl rfl rfl rfl
theorem Chg.drew (h : Chg S w w') : Chg S w w'.drew := h.heap rfl rfl rfl rfl
theorem Chg.set (h : Chg S w w') {p : Addr} (hp : p.block ∈ S ∨ w.heap.size ≤ p.block) (u : Value) : Chg S w (w'.setCell p u) :=
  ⟨h.os, h.tape, h.output, by simpa [World.setCell] using h.size, fun k hk hn => (Below.heap_setCell w' p u k (by
    rintro rfl
    rcases hp with hp | hp
    · exact hn hp
    · omega)).trans (h.block k hk hn)⟩
theorem Chg.of_below (h : Below w.heap.size w w') (S : List Nat) : Chg S w w' := ⟨h.os, h.tape, h.output, h.size, fun k hk _ => h.block k hk⟩
theorem Chg.of_grown {row : Option Nat} (h : w.grownBy w' row) : Chg row.toList w w' :=
  ⟨h.os, h.tape, h.output, h.size, fun k hk hn => h.block k hk (fun e => hn (by rw [← e]; simp))⟩
theorem Chg.cell (h : Chg S w w') {p : Addr} (hlt : p.block < w.heap.size) (hp : p.block ∉ S) : w'.cell? p = w.cell? p := World.cell?_of_block (h.block p.block hlt hp)
theorem Chg.frozen (h : Chg S w w') {p : Addr} (hlt : p.block < w.heap.size) (hp : p.block ∉ S) : w'.frozen? p = w.frozen? p := World.frozen?_of_block (h.block p.block hlt hp)
/-- Where all that has turned is of the call's own. -/
theorem Chg.below {B : Nat} (h : Chg S w w') (hb : B ≤ w.heap.size) (hs : ∀ k ∈ S, B ≤ k) : Below B w w' :=
  ⟨h.os, h.tape, h.output, h.size, fun k hk => h.block k (by omega) (fun hm => by have := hs k hm; omega)⟩

/-- The value v is a slice of n elements of type e (size cells each) that are the cells xs, in a block h of which all that lies behind them up to the capacity is there, none frozen; nil: h = none. -/
def Sl (w : World) (e : TypeId) (size : Nat) (v : Value) (h : Option Nat) (n : Nat) (xs : List Value) : Prop :=
  xs.length = n * size ∧
  ((h = none ∧ v = .slice none 0 0 ∧ n = 0) ∨
   ∃ b off cap cur, h = some b ∧ v = .slice (some ⟨b, off, none⟩) n cap ∧ Blk w b e cur ∧ n ≤ cap ∧ cap ≤ maxLen ∧ off + cap * size ≤ cur.size ∧ (cur.toList.drop off).take (n * size) = xs)

variable {e : TypeId} {size n : Nat} {v : Value} {h : Option Nat} {xs : List Value}

theorem Sl.nil (w : World) (e : TypeId) (size : Nat) : Sl w e size (.slice none 0 0) none 0 [] := ⟨by simp, .inl ⟨rfl, rfl, rfl⟩⟩
theorem Sl.of_own {base : Nat} (ho : w.ownsRow base e size v n xs) : Sl w e size v v.ownBlock n xs := by
  refine ⟨ho.1, ?_⟩
  rcases ho.2 with ⟨rfl, rfl⟩ | ⟨g, cap, cur, rfl, _, hg, hn, hc, hs, ht⟩
  · exact .inl ⟨rfl, rfl, rfl⟩
  · exact .inr ⟨g, 0, cap, cur, rfl, rfl, hg, hn, hc, by omega, by simpa using ht⟩
theorem Sl.keep (hs : Sl w e size v h n xs) (hk : ∀ b, h = some b → w'.heap[b]? = w.heap[b]?) : Sl w' e size v h n xs := by
  refine ⟨hs.1, ?_⟩
  rcases hs.2 with hn | ⟨b, off, cap, cur, hh, hv, hb, r⟩
  · exact .inl hn
  · exact .inr ⟨b, off, cap, cur, hh, hv, (hk b hh).trans hb, r⟩
theorem Sl.lt (hs : Sl w e size v h n xs) : ∀ b, h = some b → b < w.heap.size := by
  intro b hb
  rcases hs.2 with ⟨hn, _⟩ | ⟨b', off, cap, cur, hh, hv, hB, _⟩
  · rw [hb] at hn
    cases hn
  · rw [hb] at hh
    obtain rfl := Option.some.inj hh
    exact hB.lt
theorem Sl.chg (hs : Sl w e size v h n xs) (hc : Chg S w w') (hn : ∀ b, h = some b → b ∉ S) : Sl w' e size v h n xs :=
  hs.keep fun b hb => hc.block b (hs.lt b hb) (hn b hb)
theorem Sl.heap (hs : Sl w e size v h n xs) (he : w'.heap = w.heap) : Sl w' e size v h n xs := hs.keep fun b _ => by rw [he]
theorem Sl.alloc (hs : Sl w e size v h n xs) (o : Obj) : Sl (w.alloc o) e size v h n xs := hs.keep fun b hb => Below.heap_alloc w o b (hs.lt b hb)
theorem Sl.far (hs : Sl w e size v h n xs) {p : Addr} (hp : h ≠ some p.block) (u : Value) : Sl (w.setCell p u) e size v h n xs :=
  hs.keep fun b hb => Below.heap_setCell w p u b (fun e => hp (by rw [hb, e]))
theorem Sl.ne_blk {g' : Nat} {t' : TypeId} {cs' : Array Value} (hs : Sl w e size v h n xs) (hb : Blk w g' t' cs') (hne : e ≠ t') : ∀ b, h = some b → b ≠ g' := by
  intro b hh
  rcases hs.2 with ⟨hn, _⟩ | ⟨b', off, cap, cur, hh', hv, hB, _⟩
  · rw [hh] at hn
    cases hn
  · rw [hh] at hh'
    obtain rfl := Option.some.inj hh'
    exact hB.ne hb hne
/-- Where there is an element: the address, and each cell. -/
theorem Sl.at_ (hs : Sl w e size v h n xs) (hn : 0 < n) : ∃ b off cap, h = some b ∧ v = .slice (some ⟨b, off, none⟩) n cap ∧ n ≤ cap ∧ cap ≤ maxLen ∧ b < w.heap.size ∧
    ∀ j, j < n * size → w.cell? ⟨b, off + j, none⟩ = xs[j]? ∧ w.frozen? ⟨b, off + j, none⟩ = false := by
  rcases hs.2 with ⟨_, _, rfl⟩ | ⟨b, off, cap, cur, hh, hv, hB, hnc, hcm, hcs, ht⟩
  · omega
  · refine ⟨b, off, cap, hh, hv, hnc, hcm, hB.lt, fun j hj => ⟨?_, hB.frozen _⟩⟩
    rw [hB.cell, ← ht, List.getElem?_take, if_pos hj, List.getElem?_drop]
    simp
/-- Its shape, empty or not. -/
theorem Sl.form (hs : Sl w e size v h n xs) : ∃ A cap, v = .slice A n cap ∧ n ≤ cap ∧ cap ≤ maxLen := by
  rcases hs.2 with ⟨_, rfl, rfl⟩ | ⟨b, off, cap, cur, _, hv, _, hnc, hcm, _⟩
  · exact ⟨none, 0, rfl, Nat.le_refl _, Nat.zero_le _⟩
  · exact ⟨_, cap, hv, hnc, hcm⟩
/-- One cell stored. -/
theorem Sl.store {b off cap : Nat} (hs : Sl w e size (.slice (some ⟨b, off, none⟩) n cap) h n xs) (j : Nat) (u : Value) :
    Sl (w.setCell ⟨b, off + j, none⟩ u) e size (.slice (some ⟨b, off, none⟩) n cap) h n (xs.set j u) := by
  refine ⟨by simpa using hs.1, ?_⟩
  rcases hs.2 with ⟨_, hv, _⟩ | ⟨b', off', cap', cur, hh, hv, hB, hnc, hcm, hcs, ht⟩
  · cases hv
  · simp only [Value.slice.injEq, Option.some.injEq, Addr.mk.injEq, and_true, true_and] at hv
    obtain ⟨⟨rfl, rfl⟩, rfl⟩ := hv
    refine .inr ⟨b, off, cap, cur.setIfInBounds (off + j) u, hh, rfl, hB.set _ u, hnc, hcm, by simpa using hcs, ?_⟩
    rw [Array.toList_setIfInBounds, ← ht, ← List.take_set, List.drop_set, if_neg (by omega), Nat.add_sub_cancel_left]
/-- 's[k:]', k below the length. -/
theorem Sl.cut {b off cap : Nat} (hs : Sl w e size (.slice (some ⟨b, off, none⟩) n cap) h n xs) (k : Nat) (hk : k < n) :
    Sl w e size (.slice (some ⟨b, off + k * size, none⟩) (n - k) (cap - k)) h (n - k) (xs.drop (k * size)) := by
  refine ⟨by rw [List.length_drop, hs.1, Nat.sub_mul], ?_⟩
  rcases hs.2 with ⟨_, hv, _⟩ | ⟨b', off', cap', cur, hh, hv, hB, hnc, hcm, hcs, ht⟩
  · cases hv
  · simp only [Value.slice.injEq, Option.some.injEq, Addr.mk.injEq, and_true, true_and] at hv
    obtain ⟨⟨rfl, rfl⟩, rfl⟩ := hv
    refine .inr ⟨b, off + k * size, cap - k, cur, hh, rfl, hB, by omega, by omega, ?_, ?_⟩
    · have : (cap - k) * size = cap * size - k * size := Nat.sub_mul _ _ _
      have h2 : k * size ≤ cap * size := Nat.mul_le_mul_right _ (by omega)
      omega
    · rw [← ht, List.drop_take, List.drop_drop, Nat.sub_mul]
end

/-- The value v is a slice of n elements (size cells each) that read as the cells xs, in a block that is none of S; nil, or empty at whatever address. -/
def RdS (w : World) (S : List Nat) (size : Nat) (v : Value) (n : Nat) (xs : List Value) : Prop :=
  xs.length = n * size ∧ ((v = .slice none 0 0 ∧ n = 0) ∨
    ∃ (a : Addr) (cap : Nat), v = .slice (some a) n cap ∧ n ≤ cap ∧ cap ≤ maxLen ∧ (0 < n → a.spot = none ∧ a.block < w.heap.size ∧ a.block ∉ S ∧ ∀ j, j < n * size → w.cell? ⟨a.block, a.off + j, none⟩ = xs[j]?))

theorem Sl.reads {w : World} {e : TypeId} {size n : Nat} {v : Value} {h : Option Nat} {xs : List Value} (hs : Sl w e size v h n xs) (S : List Nat) (hS : ∀ b, h = some b → b ∉ S) : RdS w S size v n xs := by
  refine ⟨hs.1, ?_⟩
  rcases hs.2 with ⟨_, rfl, rfl⟩ | ⟨b, off, cap, cur, hh, rfl, hB, hnc, hcm, hcs, ht⟩
  · exact .inl ⟨rfl, rfl⟩
  · refine .inr ⟨_, cap, rfl, hnc, hcm, fun hn => ⟨rfl, hB.lt, hS b hh, fun j hj => ?_⟩⟩
    obtain ⟨b', off', cap', _, hv, _, _, _, hat⟩ := hs.at_ hn
    injection hv with hv1
    injection hv1 with hv2
    injection hv2 with hv3 hv4
    subst hv3
    subst hv4
    exact (hat j hj).1
theorem RdS.keep {w w' : World} {S T : List Nat} {size n : Nat} {v : Value} {xs : List Value} (h : RdS w S size v n xs) (hsz : w.heap.size ≤ w'.heap.size) (hk : ∀ b, b < w.heap.size → b ∉ S → w'.heap[b]? = w.heap[b]?) (hT : ∀ b, b < w.heap.size → b ∉ S → b ∉ T) : RdS w' T size v n xs := by
  refine ⟨h.1, ?_⟩
  rcases h.2 with h0 | ⟨a, cap, hv, h1, h2, h3⟩
  · exact .inl h0
  · refine .inr ⟨a, cap, hv, h1, h2, fun hn => ?_⟩
    obtain ⟨r1, r2, r3, r4⟩ := h3 hn
    refine ⟨r1, by omega, hT _ r2 r3, fun j hj => ?_⟩
    rw [← r4 j hj]
    exact World.cell?_of_block (hk a.block r2 r3)
theorem RdS.chg {w w' : World} {S : List Nat} {size n : Nat} {v : Value} {xs : List Value} (h : RdS w S size v n xs) (hc : Chg S w w') : RdS w' S size v n xs :=
  h.keep hc.size hc.block (fun _ _ h => h)
theorem RdS.below {w w' : World} {S : List Nat} {size n : Nat} {v : Value} {xs : List Value} (h : RdS w S size v n xs) (hc : Below w.heap.size w w') : RdS w' S size v n xs :=
  h.keep hc.size (fun b hb _ => hc.block b hb) (fun _ _ h => h)
theorem RdS.sub {w : World} {S T : List Nat} {size n : Nat} {v : Value} {xs : List Value} (h : RdS w S size v n xs) (hT : ∀ b, b < w.heap.size → b ∉ S → b ∉ T) : RdS w T size v n xs :=
  h.keep (Nat.le_refl _) (fun _ _ _ => rfl) hT
/-- Where there is an element. -/
theorem RdS.at_ {w : World} {S : List Nat} {size n : Nat} {v : Value} {xs : List Value} (h : RdS w S size v n xs) (hn : 0 < n) :
    ∃ b off cap, v = .slice (some ⟨b, off, none⟩) n cap ∧ n ≤ cap ∧ cap ≤ maxLen ∧ b < w.heap.size ∧ b ∉ S ∧ ∀ j, j < n * size → w.cell? ⟨b, off + j, none⟩ = xs[j]? := by
  rcases h.2 with ⟨_, h0⟩ | ⟨⟨b, off, sp⟩, cap, hv, h1, h2, h3⟩
  · omega
  · obtain ⟨r1, r2, r3, r4⟩ := h3 hn
    simp only at r1 r2 r3 r4
    subst r1
    exact ⟨b, off, cap, hv, h1, h2, r2, r3, r4⟩
theorem RdS.form {w : World} {S : List Nat} {size n : Nat} {v : Value} {xs : List Value} (h : RdS w S size v n xs) : ∃ A cap, v = .slice A n cap ∧ n ≤ cap ∧ cap ≤ maxLen := by
  rcases h.2 with ⟨rfl, rfl⟩ | ⟨a, cap, hv, h1, h2, _⟩
  · exact ⟨none, 0, rfl, Nat.le_refl _, Nat.zero_le _⟩
  · exact ⟨some a, cap, hv, h1, h2⟩

section
variable {P : Program} (w : World)

theorem heap_setCells (b : Nat) (e : TypeId) : ∀ (vs : List Value) (o : Nat) (w : World) (cur : Array Value), Blk w b e cur → o + vs.length ≤ cur.size →
    Blk (w.setCells b o vs) b e ((cur.toList.take o ++ vs ++ cur.toList.drop (o + vs.length)).toArray)
  | [], o, w, cur, h, _ => by
    simp only [World.setCells, List.append_nil, List.length_nil, Nat.add_zero, List.take_append_drop]
    exact h
  | v :: r, o, w, cur, h, hl => by
    simp only [List.length_cons] at hl
    have ih := heap_setCells b e r (o + 1) (w.setCell ⟨b, o, none⟩ v) (cur.setIfInBounds o v) (h.set o v) (by simp; omega)
    have he : (cur.setIfInBounds o v).toList.take (o + 1) ++ r ++ (cur.setIfInBounds o v).toList.drop (o + 1 + r.length) = cur.toList.take o ++ (v :: r) ++ cur.toList.drop (o + (v :: r).length) := by
      rw [Array.toList_setIfInBounds, List.drop_set_of_lt (by omega)]
      have ho : o < cur.toList.length := by simp; omega
      have ht : (cur.toList.set o v).take (o + 1) = cur.toList.take o ++ [v] := by
        rw [List.take_succ_eq_append_getElem (by simpa using ho), List.take_set_of_le (Nat.le_refl _)]
        simp
      rw [ht]
      simp only [List.append_assoc, List.cons_append, List.nil_append, List.length_cons]
      rw [show o + 1 + r.length = o + (r.length + 1) from by omega]
    rw [he] at ih
    exact ih

theorem setCells_far (b : Nat) : ∀ (vs : List Value) (o : Nat) (w : World) (k : Nat), k ≠ b → (w.setCells b o vs).heap[k]? = w.heap[k]?
  | [], _, _, _, _ => rfl
  | v :: r, o, w, k, hk => by
    rw [World.setCells, setCells_far b r (o + 1) _ k hk]
    exact Below.heap_setCell w ⟨b, o, none⟩ v k hk
theorem setCells_same (b : Nat) : ∀ (vs : List Value) (o : Nat) (w : World), (w.setCells b o vs).os = w.os ∧ (w.setCells b o vs).tape = w.tape ∧ (w.setCells b o vs).output = w.output ∧ (w.setCells b o vs).heap.size = w.heap.size
  | [], _, _ => ⟨rfl, rfl, rfl, rfl⟩
  | v :: r, o, w => by
    obtain ⟨h1, h2, h3, h4⟩ := setCells_same b r (o + 1) (w.setCell ⟨b, o, none⟩ v)
    exact ⟨h1, h2, h3, h4.trans (by simp [World.setCell])⟩

/-- append onto such a slice, something is appended. -/
theorem run_append_sl {t ty e : TypeId} {i : TypeInfo} {z : Value} {size bytes : Nat} (ht : P.underlying t = some (.slice e)) (hi : P.info? e = some i) (hz : i.zero = some z)
    (hsize : i.size = size) (hby : i.bytes = bytes) (hzs : z.cells.size = size) (hsz : 0 < size)
    {v : Value} {h : Option Nat} {n : Nat} {xs : List Value} (hs : Sl w e size v h n xs)
    (a : Addr) (m c : Nat) (news : List Value) (hl : news.length = m * size) (hnews : ∀ j u, news[j]? = some u → w.cell? (a.add j) = some u) (h1 : ∀ u ∈ news, u.oneCell' = true)
    (h63 : n + m ≤ maxLen) (hbytes : (n + m) * bytes ≤ 140737488355328) :
    ∃ v' h' w', (Builtin.append_ #[t, t] ty #[v, .slice (some a) m c]).run P w = .ok v' w' ∧ Sl w' e size v' h' (n + m) (xs ++ news) ∧ Chg h.toList w w' ∧ (h' = h ∨ ∃ g, h' = some g ∧ w.heap.size ≤ g) := by
  rcases hs.2 with ⟨rfl, rfl, rfl⟩ | ⟨b, off, cap, cur, rfl, rfl, hB, hnc, hcm, hcs, htake⟩
  · have hx : xs = [] := List.eq_nil_of_length_eq_zero (by simpa using hs.1)
    subst hx
    obtain ⟨v', w', hr, hown, hg, _⟩ := run_append_own (P := P) w w.heap.size t ty e i z size bytes ht hi hz hsize hby hzs hsz (.slice none 0 0) 0 [] (World.ownsRow_nil w _ e size) a m c news hl hnews h1 (by omega) (by simpa using hbytes) (Nat.le_refl _)
    refine ⟨v', v'.ownBlock, w', hr, Sl.of_own hown, Chg.of_grown hg, ?_⟩
    cases hv : v'.ownBlock with
    | none => exact .inl rfl
    | some k => exact .inr ⟨k, rfl, (hown.lt k hv).1⟩
  · by_cases hroom : n + m ≤ cap
    · have hmul : (n + m) * size ≤ cap * size := Nat.mul_le_mul_right _ hroom
      have hadd : (n + m) * size = n * size + m * size := Nat.add_mul _ _ _
      subst hsize
      have hr := run_append_room_cells (P := P) w t ty e i ht hi b off n cap a m c news hl hnews h1 hroom (fun j hj => by
          rw [hB.cell]
          rw [Array.getElem?_eq_getElem (show off + n * i.size + j < cur.size by omega)]
          rfl) (fun j _ => hB.frozen _)
      have hB2 := heap_setCells b e news (off + n * i.size) w cur hB (by omega)
      obtain ⟨s1, s2, s3, s4⟩ := setCells_same b news (off + n * i.size) w
      refine ⟨_, some b, _, hr, ⟨by rw [List.length_append, hs.1, hl, hadd], .inr ⟨b, off, cap, _, rfl, rfl, hB2, hroom, hcm, ?_, ?_⟩⟩, ⟨s1, s2, s3, by rw [s4]; exact Nat.le_refl _, fun k _ hk => setCells_far b news _ w k (by simpa using hk)⟩, .inl rfl⟩
      · simp only [List.size_toArray, List.length_append, List.length_take, List.length_drop, Array.length_toList]
        omega
      · have hlen : (cur.toList.take (off + n * i.size)).length = off + n * i.size := by
          rw [List.length_take, Array.length_toList]
          omega
        show (List.drop off (cur.toList.take (off + n * i.size) ++ news ++ cur.toList.drop (off + n * i.size + news.length))).take ((n + m) * i.size) = xs ++ news
        rw [List.append_assoc, List.drop_append_of_le_length (by omega), List.drop_take, Nat.add_sub_cancel_left, htake, ← List.append_assoc]
        rw [List.take_append_of_le_length (by rw [List.length_append, hs.1, hl]; omega)]
        exact List.take_of_length_le (by rw [List.length_append, hs.1, hl]; omega)
    · obtain ⟨v', w', hr, hown, hg⟩ := run_append_arg_grows (P := P) w t ty e i z size bytes ht hi hz hsize hby hzs hsz ⟨b, off, none⟩ n cap xs hs.1 (fun j u hu => by
          have hj : j < n * size := by have := (List.getElem?_eq_some_iff.1 hu).1; rw [hs.1] at this; exact this
          rw [Addr.add_lit, hB.cell]
          rw [← htake, List.getElem?_take, if_pos hj, List.getElem?_drop] at hu
          simpa using hu) a m c news hl hnews (by omega) h63 hbytes
      refine ⟨v', v'.ownBlock, w', hr, Sl.of_own hown, (Chg.of_grown hg).mono (by simp), ?_⟩
      cases hv : v'.ownBlock with
      | none =>
        rcases hown.2 with ⟨_, h0⟩ | ⟨g, cap', cur', hv', _⟩
        · omega
        · rw [hv'] at hv
          simp [Value.ownBlock] at hv
      | some k => exact .inr ⟨k, rfl, (hown.lt k hv).1⟩

/-- .. in a walk: the source has just been laid in a block of its own. -/
theorem wpList_append_sl {W : World} {cs : Array Value} {e' : TypeId} {ops : Array Oper} {rest : List Oper} {o : Oper} {a : Act} {Q : Exit → Act → World → Prop}
    (hgd : o.guard = none) (s x : Operand) (t : TypeId)
    (ho : o.op = .call { callee := .builtin .append, args := #[s, x], argTypes := #[t, t] })
    {e : TypeId} {i : TypeInfo} {z : Value} {size bytes : Nat} (ht : P.underlying t = some (.slice e)) (hi : P.info? e = some i) (hz : i.zero = some z)
    (hsize : i.size = size) (hby : i.bytes = bytes) (hzs : z.cells.size = size) (hsz : 0 < size)
    {v : Value} {h : Option Nat} {n : Nat} {xs : List Value} (hsl : Sl W e size v h n xs) (hs : a.eval s = v)
    (m c : Nat) (hx : a.eval x = .slice (some ⟨W.heap.size, 0, none⟩) m c) (hl : cs.toList.length = m * size) (h1 : ∀ u ∈ cs.toList, u.oneCell' = true)
    (h63 : n + m ≤ maxLen) (hbytes : (n + m) * bytes ≤ 140737488355328)
    (hk : ∀ v' h' w', Sl w' e size v' h' (n + m) (xs ++ cs.toList) → Chg h.toList W w' → (h' = h ∨ ∃ g, h' = some g ∧ W.heap.size ≤ g) → wpList P ops Q rest (a.put o.dst v') w') :
    wpList P ops Q (o :: rest) a (W.alloc (.cells cs e')) := by
  refine wpList_plain hgd fun K hK' => ?_
  obtain ⟨v', h', w', hr, r1, r2, r3⟩ := run_append_sl (P := P) (W.alloc (.cells cs e')) (ty := o.type) ht hi hz hsize hby hzs hsz (hsl.alloc _) ⟨W.heap.size, 0, none⟩ m c cs.toList hl (fun j u hj => by
    rw [Addr.add_zero_off, World.cell?_alloc_at _ _ _ _ rfl]
    simpa using hj) h1 h63 hbytes
  unfold Oper.wp execOp
  simp only [ho, resolve, invoke, builtin, Sem.run_bind, Sem.run_pure, Result.andThen_ok, List.map_toArray, List.map_cons, List.map_nil, hs, hx, hr]
  refine hK' _ _ (hk v' h' w' r1 ⟨r2.os, r2.tape, r2.output, Nat.le_trans (by simp) r2.size, fun k hk hn => (r2.block k (by simp; omega) hn).trans (Below.heap_alloc _ _ _ hk)⟩ ?_)
  rcases r3 with h2 | ⟨g, h2, h3⟩
  · exact .inl h2
  · exact .inr ⟨g, h2, by simp at h3; omega⟩

/-- .. at whatever world, at a single operation. -/
theorem wp_append_slG {o : Oper} {a : Act} {K : Act → World → Prop} {Q : Exit → Act → World → Prop} (s x : Operand) (t : TypeId)
    (ho : o.op = .call { callee := .builtin .append, args := #[s, x], argTypes := #[t, t] })
    {e : TypeId} {i : TypeInfo} {z : Value} {size bytes : Nat} (ht : P.underlying t = some (.slice e)) (hi : P.info? e = some i) (hz : i.zero = some z)
    (hsize : i.size = size) (hby : i.bytes = bytes) (hzs : z.cells.size = size) (hsz : 0 < size)
    {v : Value} {h : Option Nat} {n : Nat} {xs : List Value} (hsl : Sl w e size v h n xs) (hs : a.eval s = v)
    (gB : Nat) (cs : Array Value) {e' : TypeId} {fr : Nat × Nat} (hB : w.heap[gB]? = some (.cells cs e' fr))
    (m c : Nat) (hx : a.eval x = .slice (some ⟨gB, 0, none⟩) m c) (hl : cs.toList.length = m * size) (h1 : ∀ u ∈ cs.toList, u.oneCell' = true)
    (h63 : n + m ≤ maxLen) (hbytes : (n + m) * bytes ≤ 140737488355328)
    (hk : ∀ v' h' w', Sl w' e size v' h' (n + m) (xs ++ cs.toList) → Chg h.toList w w' → (h' = h ∨ ∃ g, h' = some g ∧ w.heap.size ≤ g) → K (a.put o.dst v') w') :
    o.wp P a w K Q := by
  obtain ⟨v', h', w', hr, r1, r2, r3⟩ := run_append_sl (P := P) w (ty := o.type) ht hi hz hsize hby hzs hsz hsl ⟨gB, 0, none⟩ m c cs.toList hl (fun j u hj => by
    rw [Addr.add_zero_off, cell_of_row w gB j cs e' fr hB]
    simpa using hj) h1 h63 hbytes
  unfold Oper.wp execOp
  simp only [ho, resolve, invoke, builtin, Sem.run_bind, Sem.run_pure, Result.andThen_ok, List.map_toArray, List.map_cons, List.map_nil, hs, hx, hr]
  exact hk v' h' w' r1 r2 r3

/-- .. at a step of a region that draws its order. -/
theorem step_append_sl {ops : Array Oper} {o : Oper} {a : Act} {K : Act → World → Prop} {Q : Exit → Act → World → Prop} {E : Prop} (hgd : o.guard = none) (s x : Operand) (t : TypeId)
    (ho : o.op = .call { callee := .builtin .append, args := #[s, x], argTypes := #[t, t] })
    {e : TypeId} {i : TypeInfo} {z : Value} {size bytes : Nat} (ht : P.underlying t = some (.slice e)) (hi : P.info? e = some i) (hz : i.zero = some z)
    (hsize : i.size = size) (hby : i.bytes = bytes) (hzs : z.cells.size = size) (hsz : 0 < size)
    {v : Value} {h : Option Nat} {n : Nat} {xs : List Value} (hsl : Sl w e size v h n xs) (hs : a.eval s = v)
    (gB : Nat) (cs : Array Value) {e' : TypeId} {fr : Nat × Nat} (hB : w.heap[gB]? = some (.cells cs e' fr))
    (m c : Nat) (hx : a.eval x = .slice (some ⟨gB, 0, none⟩) m c) (hl : cs.toList.length = m * size) (h1 : ∀ u ∈ cs.toList, u.oneCell' = true)
    (h63 : n + m ≤ maxLen) (hbytes : (n + m) * bytes ≤ 140737488355328)
    (hk : ∀ v' h' w', Sl w' e size v' h' (n + m) (xs ++ cs.toList) → Chg h.toList w w' → (h' = h ∨ ∃ g, h' = some g ∧ w.heap.size ≤ g) → K (a.put o.dst v') w') :
    if Region.wanted o (yielded ops a.tmps) = true then Oper.wp P o a w K Q else E := by
  have hw : Region.wanted o (yielded ops a.tmps) = true := by simp [Region.wanted, hgd]
  rw [if_pos hw]
  exact wp_append_slG w s x t ho ht hi hz hsize hby hzs hsz hsl hs gB cs hB m c hx hl h1 h63 hbytes hk

/-- .. whatever the source. -/
theorem wpList_append_slA {ops : Array Oper} {rest : List Oper} {o : Oper} {a : Act} {Q : Exit → Act → World → Prop} (hgd : o.guard = none) (s x : Operand) (t : TypeId)
    (ho : o.op = .call { callee := .builtin .append, args := #[s, x], argTypes := #[t, t] })
    {e : TypeId} {i : TypeInfo} {z : Value} {size bytes : Nat} (ht : P.underlying t = some (.slice e)) (hi : P.info? e = some i) (hz : i.zero = some z)
    (hsize : i.size = size) (hby : i.bytes = bytes) (hzs : z.cells.size = size) (hsz : 0 < size)
    {v : Value} {h : Option Nat} {n : Nat} {xs : List Value} (hsl : Sl w e size v h n xs) (hs : a.eval s = v)
    (ad : Addr) (m c : Nat) (news : List Value) (hx : a.eval x = .slice (some ad) m c) (hl : news.length = m * size) (hnews : ∀ j u, news[j]? = some u → w.cell? (ad.add j) = some u) (h1 : ∀ u ∈ news, u.oneCell' = true)
    (h63 : n + m ≤ maxLen) (hbytes : (n + m) * bytes ≤ 140737488355328)
    (hk : ∀ v' h' w', Sl w' e size v' h' (n + m) (xs ++ news) → Chg h.toList w w' → (h' = h ∨ ∃ g, h' = some g ∧ w.heap.size ≤ g) → wpList P ops Q rest (a.put o.dst v') w') :
    wpList P ops Q (o :: rest) a w := by
  refine wpList_plain hgd fun K hK => ?_
  obtain ⟨v', h', w', hr, r1, r2, r3⟩ := run_append_sl (P := P) w (ty := o.type) ht hi hz hsize hby hzs hsz hsl ad m c news hl hnews h1 h63 hbytes
  unfold Oper.wp execOp
  simp only [ho, resolve, invoke, builtin, Sem.run_bind, Sem.run_pure, Result.andThen_ok, List.map_toArray, List.map_cons, List.map_nil, hs, hx, hr]
  exact hK _ _ (hk v' h' w' r1 r2 r3)

theorem wpList_append_slG {ops : Array Oper} {rest : List Oper} {o : Oper} {a : Act} {Q : Exit → Act → World → Prop} (hgd : o.guard = none) (s x : Operand) (t : TypeId)
    (ho : o.op = .call { callee := .builtin .append, args := #[s, x], argTypes := #[t, t] })
    {e : TypeId} {i : TypeInfo} {z : Value} {size bytes : Nat} (ht : P.underlying t = some (.slice e)) (hi : P.info? e = some i) (hz : i.zero = some z)
    (hsize : i.size = size) (hby : i.bytes = bytes) (hzs : z.cells.size = size) (hsz : 0 < size)
    {v : Value} {h : Option Nat} {n : Nat} {xs : List Value} (hsl : Sl w e size v h n xs) (hs : a.eval s = v)
    (gB : Nat) (cs : Array Value) {e' : TypeId} {fr : Nat × Nat} (hB : w.heap[gB]? = some (.cells cs e' fr))
    (m c : Nat) (hx : a.eval x = .slice (some ⟨gB, 0, none⟩) m c) (hl : cs.toList.length = m * size) (h1 : ∀ u ∈ cs.toList, u.oneCell' = true)
    (h63 : n + m ≤ maxLen) (hbytes : (n + m) * bytes ≤ 140737488355328)
    (hk : ∀ v' h' w', Sl w' e size v' h' (n + m) (xs ++ cs.toList) → Chg h.toList w w' → (h' = h ∨ ∃ g, h' = some g ∧ w.heap.size ≤ g) → wpList P ops Q rest (a.put o.dst v') w') :
    wpList P ops Q (o :: rest) a w :=
  wpList_plain hgd fun _ hK => wp_append_slG w s x t ho ht hi hz hsize hby hzs hsz hsl hs gB cs hB m c hx hl h1 h63 hbytes fun v' h' w' r1 r2 r3 => hK _ _ (hk v' h' w' r1 r2 r3)
/-- 'append' in a walk: the source has just been laid in a block of its own, number X. -/
theorem wpList_append_slX {W : World} {cs : Array Value} {e' : TypeId} {ops : Array Oper} {rest : List Oper} {o : Oper} {a : Act} {Q : Exit → Act → World → Prop}
    (hgd : o.guard = none) (s x : Operand) (t : TypeId)
    (ho : o.op = .call { callee := .builtin .append, args := #[s, x], argTypes := #[t, t] })
    {e : TypeId} {i : TypeInfo} {z : Value} {size bytes : Nat} (ht : P.underlying t = some (.slice e)) (hi : P.info? e = some i) (hz : i.zero = some z)
    (hsize : i.size = size) (hby : i.bytes = bytes) (hzs : z.cells.size = size) (hsz : 0 < size)
    {v : Value} {h : Option Nat} {n : Nat} {xs : List Value} (hsl : Sl W e size v h n xs) (hs : a.eval s = v) (X : Nat) (hX : W.heap.size = X)
    (m c : Nat) (hx : a.eval x = .slice (some ⟨X, 0, none⟩) m c) (hl : cs.toList.length = m * size) (h1 : ∀ u ∈ cs.toList, u.oneCell' = true)
    (h63 : n + m ≤ maxLen) (hbytes : (n + m) * bytes ≤ 140737488355328)
    (hk : ∀ v' h' w', Sl w' e size v' h' (n + m) (xs ++ cs.toList) → Chg h.toList W w' → (h' = h ∨ ∃ g, h' = some g ∧ W.heap.size ≤ g) → wpList P ops Q rest (a.put o.dst v') w') :
    wpList P ops Q (o :: rest) a (W.alloc (.cells cs e')) := by
  subst hX
  exact wpList_append_sl hgd s x t ho ht hi hz hsize hby hzs hsz hsl hs m c hx hl h1 h63 hbytes hk
end

end Go.Proofs.YtnfabgbidkddhaaDoor
