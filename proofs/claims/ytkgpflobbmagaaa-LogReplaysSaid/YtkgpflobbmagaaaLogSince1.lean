/-
  What Since keeps in memory while it goes through what was taken; the plain step of its loop.
-/
import Derived.Test.YtkgpflobbmagaaaLogTold
namespace Go.Proofs.Ytkgpflobbmagaaa
open Go.RowKit

def seenOf (tk : List E4) (j : Nat) : Seen := (tk.take j).foldl addS []
theorem seenOf_succ (tk : List E4) (j : Nat) (hj : j < tk.length) : seenOf tk (j + 1) = addS (seenOf tk j) tk[j] := by
  unfold seenOf
  rw [List.take_succ_eq_append_getElem hj, List.foldl_append]
  rfl
theorem addS_length (s : Seen) (e : E4) : (addS s e).length ≤ s.length + 1 := by
  induction s with
  | nil => simp [addS]
  | cons p r ih =>
    unfold addS
    split
    · simp
    · simp only [List.length_cons]
      omega
theorem seenOf_length (tk : List E4) (j : Nat) (hj : j ≤ tk.length) : (seenOf tk j).length ≤ j := by
  induction j with
  | zero => simp [seenOf]
  | succ j ih =>
    rw [seenOf_succ tk j (by omega)]
    have := addS_length (seenOf tk j) (tk[j]'(by omega))
    have := ih (by omega)
    omega
theorem addS_ids (s : Seen) (e : E4) : (addS s e).map (·.1) = s.map (·.1) ∧ e.i ∈ s.map (·.1) ∨ (addS s e).map (·.1) = s.map (·.1) ++ [e.i] ∧ e.i ∉ s.map (·.1) := by
  cases hf : s.find? (fun p => p.1 == e.i) with
  | none =>
    refine .inr ⟨by rw [addS_new s e hf]; simp, fun hm => ?_⟩
    obtain ⟨p, hp, he⟩ := List.mem_map.1 hm
    have := List.find?_eq_none.1 hf p hp
    simp [he] at this
  | some p =>
    refine .inl ⟨(addS_found s e p hf).1, ?_⟩
    have h1 := List.find?_some hf
    have h2 := List.mem_of_find?_eq_some hf
    simp at h1
    exact List.mem_map.2 ⟨p, h2, h1⟩
theorem seenOf_nodup (tk : List E4) (j : Nat) (hj : j ≤ tk.length) : ((seenOf tk j).map (·.1)).Nodup := by
  induction j with
  | zero => simp [seenOf]
  | succ j ih =>
    rw [seenOf_succ tk j (by omega)]
    have h1 := ih (by omega)
    rcases addS_ids (seenOf tk j) (tk[j]'(by omega)) with ⟨h2, _⟩ | ⟨h2, h3⟩
    · rw [h2]
      exact h1
    · rw [h2, List.nodup_append]
      refine ⟨h1, by simp, fun a ha b hb => ?_⟩
      simp at hb
      subst hb
      rintro rfl
      exact h3 ha

theorem bthen' {a w w' : World} (hb : Below a.heap.size a w) (h : Below w.heap.size w w') : Below a.heap.size a w' := hb.trans (h.mono hb.size)

/-- Memory in Since's second loop: k are told, j are taken in. -/
structure SR (w wr : World) (R O G b : Nat) (hs th : Option Nat) (tv : Value) (tk : List E4) (clock : Int) (k j : Nat) (ov : Nat → Value) (oh : Nat → Option Nat) : Prop where
  bR : Blk wr R 46 #[.slice none 0 0, .slice none 0 0, .slice none 0 0, .int .i64 0, .bool false]
  bO : Blk wr O 46 #[ov 0, ov 1, ov 2, .int .i64 clock, .bool false]
  sO : ∀ i, i < 3 → Sl wr 3 1 (ov i) (oh i) (lsOf (toldS (seenOf tk k)) i).length (intsV (lsOf (toldS (seenOf tk k)) i))
  sT : Sl wr 42 4 tv th tk.length (flatE tk)
  sn : SeenAt wr G hs b (seenOf tk j)
  below : Below w.heap.size w wr
  oR : w.heap.size ≤ R
  oO : w.heap.size ≤ O
  oG : w.heap.size ≤ G
  ob : w.heap.size ≤ b
  ohs : ∀ x, hs = some x → w.heap.size ≤ x
  oth : ∀ x, th = some x → w.heap.size ≤ x
  ooh : ∀ i x, i < 3 → oh i = some x → w.heap.size ≤ x ∧ hs ≠ some x
  ne : R ≠ O

section
variable {w wr w' : World} {R O G b : Nat} {hs th : Option Nat} {tv : Value} {tk : List E4} {clock : Int} {k j : Nat} {ov : Nat → Value} {oh : Nat → Option Nat}

/-- What lists.add may turn is none of the rest. -/
theorem SR.apart (q : SR w wr R O G b hs th tv tk clock k j ov oh) : R ∉ G :: b :: hs.toList ∧ O ∉ G :: b :: hs.toList ∧ (∀ x, th = some x → x ∉ G :: b :: hs.toList) ∧ ∀ i x, i < 3 → oh i = some x → x ∉ G :: b :: hs.toList := by
  obtain ⟨v, m, hB, hsl, hM, _⟩ := q.sn
  have key : ∀ {x : Nat} {t : TypeId} {cs : Array Value}, Blk wr x t cs → t ≠ 86 → hs ≠ some x → x ∉ G :: b :: hs.toList := by
    intro x t cs hx ht hne hm
    simp only [List.mem_cons, Option.mem_toList] at hm
    rcases hm with h | h | h
    · exact hx.ne hB ht h
    · exact hM.ne_blk hx h.symm
    · exact hne h
  refine ⟨key q.bR (by decide) (fun h => hsl.ne_blk q.bR (by decide) R h rfl), key q.bO (by decide) (fun h => hsl.ne_blk q.bO (by decide) O h rfl), fun x hx => ?_, fun i x hi hx => ?_⟩
  · rcases q.sT.2 with ⟨h0, _⟩ | ⟨b', off, cap, cur, hh, _, hBT, _⟩
    · rw [hx] at h0
      cases h0
    · rw [hx] at hh
      obtain rfl := Option.some.inj hh
      exact key hBT (by decide) (fun h => hsl.ne_blk hBT (by decide) x h rfl)
  · rcases (q.sO i hi).2 with ⟨h0, _⟩ | ⟨b', off, cap, cur, hh, _, hBT, _⟩
    · rw [hx] at h0
      cases h0
    · rw [hx] at hh
      obtain rfl := Option.some.inj hh
      exact key hBT (by decide) (q.ooh i x hi hx).2

/-- Behind one add. -/
theorem SR.add {hs' : Option Nat} (q : SR w wr R O G b hs th tv tk clock k j ov oh) (hj : j < tk.length) (hsn : SeenAt w' G hs' b (addS (seenOf tk j) tk[j])) (hc : Chg (G :: b :: hs.toList) wr w')
    (ho : hs' = hs ∨ ∃ x, hs' = some x ∧ wr.heap.size ≤ x) : SR w w' R O G b hs' th tv tk clock k (j + 1) ov oh := by
  obtain ⟨a1, a2, a3, a4⟩ := q.apart
  rw [← seenOf_succ tk j hj] at hsn
  refine ⟨q.bR.chg hc a1, q.bO.chg hc a2, fun i hi => (q.sO i hi).chg hc (a4 i · hi), q.sT.chg hc a3, hsn, ?_, q.oR, q.oO, q.oG, q.ob, ?_, q.oth, ?_, q.ne⟩
  · refine q.below.trans (hc.below q.below.size fun x hx => ?_)
    simp only [List.mem_cons, Option.mem_toList] at hx
    rcases hx with rfl | rfl | h
    · exact q.oG
    · exact q.ob
    · exact q.ohs x h
  · intro x hx
    rcases ho with rfl | ⟨y, rfl, hy⟩
    · exact q.ohs x hx
    · injection hx with hx
      have := q.below.size
      omega
  · intro i x hi hx
    refine ⟨(q.ooh i x hi hx).1, fun hh => ?_⟩
    rcases ho with rfl | ⟨y, rfl, hy⟩
    · exact (q.ooh i x hi hx).2 hh
    · injection hh with hh
      have := (q.sO i hi).lt x hx
      omega
/-- Behind what turns nothing. -/
theorem SR.later (q : SR w wr R O G b hs th tv tk clock k j ov oh) (hb : Below wr.heap.size wr w') : SR w w' R O G b hs th tv tk clock k j ov oh := by
  have hc : Chg [] wr w' := Chg.of_below hb []
  obtain ⟨v, m, hB, hsl, hM, hg⟩ := q.sn
  exact ⟨q.bR.chg hc (by simp), q.bO.chg hc (by simp), fun i hi => (q.sO i hi).chg hc (by simp), q.sT.chg hc (by simp), ⟨v, m, hB.chg hc (by simp), hsl.chg hc (by simp), hM.chg hc (by simp), hg⟩,
    bthen' q.below hb, q.oR, q.oO, q.oG, q.ob, q.ohs, q.oth, q.ooh, q.ne⟩
/-- Five cells of a block stored, one by one. -/
def st5 (W : World) (O : Nat) (u0 u1 u2 u3 u4 : Value) : World :=
  ((((W.setCell ⟨O, 0, none⟩ u0).setCell ⟨O, 1, none⟩ u1).setCell ⟨O, 2, none⟩ u2).setCell ⟨O, 3, none⟩ u3).setCell ⟨O, 4, none⟩ u4
theorem st5_far {W : World} {O : Nat} {u0 u1 u2 u3 u4 : Value} (k : Nat) (hk : k ≠ O) : (st5 W O u0 u1 u2 u3 u4).heap[k]? = W.heap[k]? := by
  unfold st5
  rw [Below.heap_setCell _ _ _ k hk, Below.heap_setCell _ _ _ k hk, Below.heap_setCell _ _ _ k hk, Below.heap_setCell _ _ _ k hk, Below.heap_setCell _ _ _ k hk]
theorem st5_blk {W : World} {O : Nat} {u0 u1 u2 u3 u4 : Value} {t : TypeId} {a0 a1 a2 a3 a4 : Value} (h : Blk W O t #[a0, a1, a2, a3, a4]) : Blk (st5 W O u0 u1 u2 u3 u4) O t #[u0, u1, u2, u3, u4] :=
  ((((h.set 0 u0).set 1 u1).set 2 u2).set 3 u3).set 4 u4
theorem st5_chg {S : List Nat} {a W : World} {O : Nat} {u0 u1 u2 u3 u4 : Value} (h : Chg S a W) (hO : O ∈ S ∨ a.heap.size ≤ O) : Chg S a (st5 W O u0 u1 u2 u3 u4) :=
  ((((h.set (p := ⟨O, 0, none⟩) hO u0).set (p := ⟨O, 1, none⟩) hO u1).set (p := ⟨O, 2, none⟩) hO u2).set (p := ⟨O, 3, none⟩) hO u3).set (p := ⟨O, 4, none⟩) hO u4

/-- Behind a round: what was told is the answer so far. -/
theorem SR.next {o : Obj} {cv : Nat → Value} {ch : Nat → Option Nat} (q : SR w wr R O G b hs th tv tk clock k j ov oh)
    (hS : ∀ i, i < 3 → Sl wr 3 1 (cv i) (ch i) (lsOf (toldS (seenOf tk j)) i).length (intsV (lsOf (toldS (seenOf tk j)) i)))
    (hf : ∀ i x, i < 3 → ch i = some x → w.heap.size ≤ x ∧ hs ≠ some x) :
    SR w (st5 (wr.alloc o) O (cv 0) (cv 1) (cv 2) (.int .i64 clock) (.bool false)) R O G b hs th tv tk clock j j cv ch := by
  have hc : Chg [O] wr (st5 (wr.alloc o) O (cv 0) (cv 1) (cv 2) (.int .i64 clock) (.bool false)) := st5_chg ((Chg.refl [O] wr).alloc o) (.inl (by simp))
  obtain ⟨v, m, hB, hsl, hM, hg⟩ := q.sn
  have sl_ne : ∀ {e : TypeId} {size n : Nat} {v : Value} {h : Option Nat} {xs : List Value}, Sl wr e size v h n xs → e ≠ 46 → ∀ x, h = some x → x ∉ [O] := by
    intro e size n v h xs hs he x hx hm
    simp at hm
    exact hs.ne_blk q.bO he x hx hm
  refine ⟨q.bR.chg hc (by simpa using q.ne), st5_blk (q.bO.alloc o), fun i hi => (hS i hi).chg hc (sl_ne (hS i hi) (by decide)), q.sT.chg hc (sl_ne q.sT (by decide)), ⟨v, m, hB.chg hc (by simpa using hB.ne q.bO (by decide)), hsl.chg hc (sl_ne hsl (by decide)), hM.chg hc (by simpa using hM.ne_blk q.bO), hg⟩,
    q.below.trans (hc.below q.below.size (by simpa using q.oO)), q.oR, q.oO, q.oG, q.ob, q.ohs, q.oth, hf, q.ne⟩

/-- What is handed back, behind five stores into the result. -/
theorem SR.back {u0 u1 u2 : Value} {st : Int} {more : Bool} (q : SR w wr R O G b hs th tv tk clock k j ov oh) {W : World} (hc : Chg [O] wr W)
    (hu : u0 = ov 0 ∧ u1 = ov 1 ∧ u2 = ov 2) :
    ChO (st5 W R u0 u1 u2 (.int .i64 st) (.bool more)) w.heap.size #[u0, u1, u2, .int .i64 st, .bool more] (toldS (seenOf tk k)) st more ∧ Below w.heap.size w (st5 W R u0 u1 u2 (.int .i64 st) (.bool more)) ∧
      Blk (st5 W R u0 u1 u2 (.int .i64 st) (.bool more)) R 46 #[u0, u1, u2, .int .i64 st, .bool more] := by
  obtain ⟨rfl, rfl, rfl⟩ := hu
  have hc2 : Chg [O, R] wr (st5 W R (ov 0) (ov 1) (ov 2) (.int .i64 st) (.bool more)) := st5_chg (hc.mono (T := [O, R]) (fun k hk => .inl (by simp at hk; simp [hk]))) (.inl (by simp))
  refine ⟨⟨ov, fun i => if i < 3 then oh i else none, rfl, fun i hi => ?_, fun i x hx => ?_⟩, q.below.trans (hc2.below q.below.size (fun x hx => by
    simp at hx
    rcases hx with rfl | rfl
    · exact q.oO
    · exact q.oR)), st5_blk (q.bR.chg hc (by simpa using q.ne))⟩
  · simp only [if_pos hi]
    refine (q.sO i hi).chg hc2 (fun x hx hm => ?_)
    simp at hm
    rcases hm with h | h
    · exact (q.sO i hi).ne_blk q.bO (by decide) x hx h
    · exact (q.sO i hi).ne_blk q.bR (by decide) x hx h
  · by_cases hi : i < 3
    · simp only [if_pos hi] at hx
      exact (q.ooh i x hi hx).1
    · simp [hi] at hx
end

/-- One round of the plain loop. -/
theorem loopP_step (frm clock most : Int) (f : Nat) (tk : List E4) (k j : Nat) (t : Told) (last m : Int) (hk : k < j) (hj : j ≤ tk.length) (hsame : ∀ i, k ≤ i → (h : i < j) → (tk[i]'(by omega)).m = m) (hstop : ∀ h : j < tk.length, (tk[j]'h).m ≠ m) :
    loopP frm clock most (f + 1) (tk.take k) (tk.drop k) t last =
      if 0 < most ∧ most < (toldS (seenOf tk j)).size then (if last = frm then Ans.none_ else ⟨t, last, true, 0⟩)
      else loopP frm clock most f (tk.take j) (tk.drop j) (toldS (seenOf tk j)) m := by
  have hkl : k < tk.length := by omega
  have e1 : tk.drop k = tk[k] :: tk.drop (k + 1) := List.drop_eq_getElem_cons hkl
  have hm : tk[k].m = m := hsame k (Nat.le_refl _) hk
  have e2 : (tk[k] :: tk.drop (k + 1)).takeWhile (fun e => e.m == tk[k].m) = (tk.drop k).take (j - k) := by
    rw [← e1, hm]
    have h1 : tk.drop k = (tk.drop k).take (j - k) ++ tk.drop j := by
      conv => lhs; rw [← List.take_append_drop (j - k) (tk.drop k)]
      rw [List.drop_drop, show k + (j - k) = j from by omega]
    have h2 : ∀ e ∈ (tk.drop k).take (j - k), (e.m == m) = true := by
      intro e he
      obtain ⟨i, hi, rfl⟩ := List.mem_iff_getElem.1 he
      have hi' : i < j - k := by
        have := hi
        simp only [List.length_take, List.length_drop] at this
        omega
      rw [List.getElem_take, List.getElem_drop]
      simpa using hsame (k + i) (by omega) (by omega)
    conv => lhs; rw [h1]
    rw [List.takeWhile_append_of_pos (fun e he => h2 e he)]
    by_cases hl : j < tk.length
    · rw [List.drop_eq_getElem_cons hl, List.takeWhile_cons]
      have : (tk[j].m == m) = false := by
        rw [beq_eq_false_iff_ne]
        exact hstop hl
      rw [this]
      simp
    · have h3 : tk.drop j = [] := List.drop_of_length_le (by omega)
      rw [h3]
      simp
  have hlen : ((tk.drop k).take (j - k)).length = j - k := by
    rw [List.length_take, List.length_drop]
    omega
  have e3 : tk.take k ++ (tk.drop k).take (j - k) = tk.take j := by
    rw [← List.take_add, show k + (j - k) = j from by omega]
  conv => lhs; rw [e1, loopP]
  simp only [e2, hlen, e3]
  rw [← e1, List.drop_drop, show k + (j - k) = j from by omega, hm]
  rfl

end Go.Proofs.Ytkgpflobbmagaaa
