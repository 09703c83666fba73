/-
  Rows of bytes in memory; a string turned into bytes; the walk of pillarboxref1.Fold.
-/
import Derived.Test.YtnfabgbidkddhaaGreatDoorGCA
import Derived.Test.YtnfabgbidkddhaaGreatDoorProg
import Derived.Lib.ConvBytes
namespace Go.Proofs.YtnfabgbidkddhaaGreatDoor
open Go.RowKit

theorem bthen {a w w' : World} (hb : Below a.heap.size a w) (h : Below w.heap.size w w') : Below a.heap.size a w' := hb.trans (h.mono hb.size)

/-- Block g begins with the bytes l, none of them frozen. -/
def RowB (w : World) (g : Nat) (l : List UInt8) : Prop := ∀ j (hj : j < l.length), w.cell? ⟨g, j, none⟩ = some (.int .u8 (l[j].toNat : Int)) ∧ w.frozen? ⟨g, j, none⟩ = false

theorem RowB.set {w : World} {g : Nat} {l : List UInt8} (h : RowB w g l) (k : Nat) (hk : k < l.length) (c : UInt8) : RowB (w.setCell ⟨g, k, none⟩ (.int .u8 (c.toNat : Int))) g (l.set k c) := by
  intro j hj
  rw [List.length_set] at hj
  refine ⟨?_, by rw [World.frozen?_setCell]; exact (h j hj).2⟩
  by_cases e : k = j
  · subst e
    rw [World.cell?_setCell_same _ _ _ (h k hk).1]
    simp
  · rw [World.cell?_setCell_other _ _ _ _ (by simp), (h j hj).1]
    simp [e]
theorem RowB.below {w w' : World} {g : Nat} {l : List UInt8} (h : RowB w g l) (hb : Below w.heap.size w w') (hg : g < w.heap.size) : RowB w' g l := by
  intro j hj
  rw [hb.cell (p := ⟨g, j, none⟩) hg, hb.frozen (p := ⟨g, j, none⟩) hg]
  exact h j hj

theorem rowB_conv (w : World) (e : TypeId) (s : ByteArray) : RowB (Lib.bytesWorld w e s) w.heap.size s.data.toList ∧ Below w.heap.size w (Lib.bytesWorld w e s) := by
  constructor
  · intro j hj
    have hj' : j < s.size := by simpa using hj
    constructor
    · rw [Lib.bytesWorld_cell w e s j hj']
      simp [List.getD, List.getElem?_eq_getElem hj]
    · simp only [World.frozen?, Lib.bytesWorld_at_new]
      have h1 : (Lib.bytesCells w e s).size = s.data.size + (grownCap w s.size 0 e - s.size) := by
        unfold Lib.bytesCells
        rw [Array.size_append, Array.size_map, Array.size_replicate]
      have h2 : s.data.size = s.size := rfl
      rw [decide_eq_false (by omega)]
      rfl
  · refine ⟨?_, ?_, ?_, by rw [Lib.bytesWorld_size]; omega, fun k hk => Lib.bytesWorld_at_old w e s k hk⟩
    all_goals simp [Lib.bytesWorld, World.freeze, World.alloc, World.drew, -World.alloc_eq, -World.drew_eq]

/-- '[]byte(s)' in a walk: a new block with the bytes; nothing that was there turns. -/
theorem wpList_bytes_of {P : Program} {w : World} {ops : Array Oper} {rest : List Oper} {o : Oper} {a : Act} {Q : Exit → Act → World → Prop}
    (hgd : o.guard = none) (src dst e : TypeId) (x : Operand) (ho : o.op = .convert src dst x) (hs : P.underlying src = some .string) (hd : P.underlying dst = some (.slice e)) (he : P.underlying e = some (.int .u8))
    (s : ByteArray) (hx : a.eval x = .string s)
    (h : ∀ cap w', s.size ≤ cap → cap ≤ maxLen ∨ maxLen < s.size → RowB w' w.heap.size s.data.toList → Below w.heap.size w w' → w.heap.size < w'.heap.size → wpList P ops Q rest (a.put o.dst (.slice (some ⟨w.heap.size, 0, none⟩) s.size cap)) w') :
    wpList P ops Q (o :: rest) a w := by
  refine wpList_plain hgd fun K hK => ?_
  have hr := Lib.run_convert_string_bytes (P := P) w src dst e s hs hd he
  obtain ⟨h1, h2⟩ := rowB_conv w e s
  unfold Oper.wp
  simp [execOp, ho, hx, hr, Result.andThen]
  refine hK _ _ (h _ _ (grownCap_ge _ _ _ _) ?_ h1 h2 (by rw [Lib.bytesWorld_size]; omega))
  by_cases hm : s.size ≤ maxLen
  · exact .inl (grownCap_le_maxLen w s.size 0 e hm)
  · exact .inr (by omega)

/-- The string of a row of bytes. -/
theorem run_string_row {P : Program} {w : World} {src e g cap : Nat} {l : List UInt8} (hs : P.underlying src = some (.slice e)) (he : P.underlying e = some (.int .u8))
    (h : RowB w g l) (n : Nat) (hn : l.length = n) (dst : TypeId) (hd : P.underlying dst = some .string) :
    (convert src dst (.slice (some ⟨g, 0, none⟩) n cap)).run P w = .ok (.string ⟨l.toArray⟩) w := by
  subst hn
  refine run_convert_bytes_back w src dst e ⟨g, 0, none⟩ cap l hs he hd fun j hj => ?_
  rw [Addr.add_zero_off]
  exact (h j hj).1

/-- The bytes after k rounds: the first k made small. -/
def lowUpTo (l : List UInt8) (k : Nat) : List UInt8 := (l.take k).map lowB ++ l.drop k
theorem lowUpTo_length (l : List UInt8) (k : Nat) : (lowUpTo l k).length = l.length := by
  simp [lowUpTo]
  omega
theorem lowUpTo_zero (l : List UInt8) : lowUpTo l 0 = l := by simp [lowUpTo]
theorem lowUpTo_all (l : List UInt8) : lowUpTo l l.length = lowL l := by simp [lowUpTo, lowL]
theorem lowUpTo_at (l : List UInt8) (k : Nat) (h : k < l.length) (h2 : k < (lowUpTo l k).length) : (lowUpTo l k)[k] = l[k] := by
  simp only [lowUpTo]
  rw [List.getElem_append_right (by simp; omega)]
  simp
  congr 1
  omega
theorem lowUpTo_set (l : List UInt8) (k : Nat) (h : k < l.length) : (lowUpTo l k).set k (lowB l[k]) = lowUpTo l (k + 1) := by
  unfold lowUpTo
  have e1 : l.drop k = l[k] :: l.drop (k + 1) := by rw [List.drop_eq_getElem_cons h]
  have e2 : l.take (k + 1) = l.take k ++ [l[k]] := by rw [List.take_succ_eq_append_getElem h]
  rw [e2, List.set_append_right _ _ (by simp; omega)]
  have : k - ((l.take k).map lowB).length = 0 := by simp; omega
  rw [this, e1, List.map_append, List.append_assoc]
  rfl
theorem lowUpTo_stay (l : List UInt8) (k : Nat) (h : k < l.length) (hc : lowB l[k] = l[k]) : lowUpTo l k = lowUpTo l (k + 1) := by
  rw [← lowUpTo_set l k h, hc]
  have h2 : k < (lowUpTo l k).length := by rw [lowUpTo_length]; exact h
  have := lowUpTo_at l k h h2
  rw [← this, List.set_getElem_self]

end Go.Proofs.YtnfabgbidkddhaaGreatDoor
