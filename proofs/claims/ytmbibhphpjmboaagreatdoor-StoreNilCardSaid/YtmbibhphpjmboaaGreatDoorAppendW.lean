/-
  Words for the store's Append: a call inside a region that draws its order; the loop that numbers the members; what each step leaves as it was.
-/
import Derived.Test.YtmbibhphpjmboaaGreatDoorThread
namespace Go.Proofs.YtmbibhphpjmboaaGreatDoor
open Go.Shelf Go.RowKit

/-- A call of a Go function, at a step of a region that draws. -/
theorem step_call {P : Program} {ops : Array Oper} {o : Oper} {a : Act} {w : World} {K : Act → World → Prop} {Q : Exit → Act → World → Prop} {E : Prop} (hgd : o.guard = none) {f : FuncId} {xs : Array Operand} {ts : Array TypeId}
    (ho : o.op = .call { callee := .value (.func f), args := xs, argTypes := ts }) (eg : ∀ args W, (callFunc f args).run P W = .ok (.enter f args) W) {vals : Array Value} (hv : xs.map a.eval = vals) {R : Ending → World → Prop} (hc : Calls P f vals w R)
    (hk : ∀ e w', R e w' → ∃ v, e = .returned v ∧ K (a.put o.dst v) w') : if Region.wanted o (yielded ops a.tmps) = true then Oper.wp P o a w K Q else E := by
  have hw : Region.wanted o (yielded ops a.tmps) = true := by simp [Region.wanted, hgd]
  rw [if_pos hw]
  have hrun : (execOp a.eval o).run P w = .ok (.enter f vals) w := by
    unfold execOp
    simp only [ho, resolve, Act.eval] at hv ⊢
    simp [Deferred.ofValue, invoke, go_sem, hv, eg]
  unfold Oper.wp
  rw [hrun, Oper.upon_enter]
  refine hc.mono ?_
  intro e w' hR
  obtain ⟨v, rfl, hk'⟩ := hk e w' hR
  exact hk'

section
variable {w W W2 : World} {g : Nat} {q : Lies} {x x1 : Acc}
/-- A slice of the call's own abides what turns the account. -/
theorem Sl.fresh {e : TypeId} {size n : Nat} {v : Value} {h : Option Nat} {xs : List Value} (hs : Sl W e size v h n xs) (hf : ∀ b, h = some b → w.heap.size ≤ b) (hw : StoreAt w g q x) (hc : Chg (q.own g) W W2) : Sl W2 e size v h n xs :=
  hs.chg hc fun b hb hm => by
    have h1 := hw.lt b hm
    have h2 := hf b hb
    omega
theorem Blk.fresh {b : Nat} {t : TypeId} {cs : Array Value} (hB : Blk W b t cs) (hf : w.heap.size ≤ b) (hw : StoreAt w g q x) (hc : Chg (q.own g) W W2) : Blk W2 b t cs :=
  hB.chg hc fun hm => by
    have h1 := hw.lt b hm
    omega
theorem Turned.then_below (h : Turned w W g q x1 q) (hb : Below W.heap.size W W2) : Turned w W2 g q x1 q := h.trans (Turned.of_below h.at_ hb)
end

theorem StoreAt.setOctets {w : World} {g : Nat} {q : Lies} {x : Acc} (h : StoreAt w g q x) (v : Int) : Turned w (w.setCell ⟨g, 15, none⟩ (.int .i64 v)) g q { x with octets := v } q := h.setStruct 15 (.int .i64 v) { x with octets := v } rfl rfl rfl rfl
theorem numbers_snoc (l : List Int) (i : Int) (bs : List BoxP) : numbers (l ++ [i]) bs = (bump i (numbers l bs).1, (numbers l bs).2 ++ [(i, nextOf (numbers l bs).1 i)]) := by simp [numbers]
theorem numbers_ids : ∀ (l : List Int) (bs : List BoxP), ids (numbers l bs).1 = ids bs := by
  intro l bs
  have h : ∀ (l : List Int) (s : List BoxP × List (Int × Int)), ids (l.foldl (fun s id => (bump id s.1, s.2 ++ [(id, nextOf s.1 id)])) s).1 = ids s.1 := by
    intro l
    induction l with
    | nil => intro s; rfl
    | cons i r ih =>
      intro s
      rw [List.foldl_cons, ih]
      exact setBox_ids i (fun b => { b with next := b.next + 1 }) (fun b => rfl) _
  exact h l (bs, [])
theorem numbers_len (l : List Int) (bs : List BoxP) : (numbers l bs).1.length = bs.length := by
  have := congrArg List.length (numbers_ids l bs)
  simpa [ids] using this
theorem numbers_len2 (l : List Int) (bs : List BoxP) : (numbers l bs).2.length = l.length := by
  have h : ∀ (l : List Int) (s : List BoxP × List (Int × Int)), (l.foldl (fun s id => (bump id s.1, s.2 ++ [(id, nextOf s.1 id)])) s).2.length = s.2.length + l.length := by
    intro l
    induction l with
    | nil => intro s; simp
    | cons i r ih =>
      intro s
      rw [List.foldl_cons, ih]
      simp
      omega
  have := h l (bs, [])
  simpa [numbers] using this
/-- The next numbers stay in bounds. -/
theorem numbers_next {c : CfgP} {last : Int} {bs : List BoxP} (hc : CfgOk c) (hn : (ids bs).Nodup) (hb : ∀ b ∈ bs, BoxOk c last b) (l : List Int) (hl : l.Nodup) (hs : ∀ i ∈ l, nextOf bs i ≤ c.maxUid) (i : Int) (hi : i ∈ ids bs) :
    0 ≤ nextOf (numbers l bs).1 i ∧ nextOf (numbers l bs).1 i ≤ 4294967296 := by
  rw [numbers_eq l bs hn hl]
  have hst := boxStep_bump c l bs (fun b hb2 hbl => by
    have := hs b.id hbl
    rw [nextOf_mem hn hb2] at this
    exact this)
  have hi2 : i ∈ ids (bumpAll l bs) := by rw [ids_bumpAll]; exact hi
  obtain ⟨b, hb2, rfl⟩ := List.mem_map.1 hi2
  have hnd : (ids (bumpAll l bs)).Nodup := by rw [ids_bumpAll]; exact hn
  have h1 := hst.ok last hb b hb2
  rw [nextOf_mem hnd hb2]
  have h2 := h1.next
  have h3 := hc.uid
  omega

/-- What the loop that numbers the members keeps. -/
structure NumRel (w w5 wr : World) (g : Nat) (q : Lies) (x2 : Acc) (l : List Int) (B : Nat) (c0 c1 c2 c3 c4 c6 c7 : Value) (k : Nat) (mv : Value) : Prop where
  st : Turned w wr g q { x2 with boxes := (numbers (l.take k) x2.boxes).1 } q
  ch : Chg (q.own g) w5 wr
  blk : Blk wr B 40 #[c0, c1, c2, c3, c4, mv, c6, c7]
  mem : ∃ h, Sl wr 71 2 mv h k (flatG encMem (numbers (l.take k) x2.boxes).2) ∧ ∀ b, h = some b → w5.heap.size ≤ b

theorem NumRel.next {w w5 wr W W2 : World} {g : Nat} {q : Lies} {x x2 : Acc} {l : List Int} {B : Nat} {c0 c1 c2 c3 c4 c6 c7 : Value} {k : Nat} {mv mv' : Value} (h : NumRel w w5 wr g q x2 l B c0 c1 c2 c3 c4 c6 c7 k mv) (hw : StoreAt w g q x) (hB5 : w5.heap.size ≤ B) (h5 : w.heap.size ≤ w5.heap.size) (hk : k < l.length)
    (ht : Turned wr W g q { x2 with boxes := bump l[k] (numbers (l.take k) x2.boxes).1 } q) {hh h' : Option Nat} (hs : Sl W 71 2 mv hh k (flatG encMem (numbers (l.take k) x2.boxes).2)) (hf : ∀ b, hh = some b → w5.heap.size ≤ b)
    (hs2 : Sl W2 71 2 mv' h' (k + 1) (flatG encMem (numbers (l.take k) x2.boxes).2 ++ [.int .i64 l[k], .int .i64 (nextOf (numbers (l.take k) x2.boxes).1 l[k])])) (hc : Chg hh.toList W W2) (ho : h' = hh ∨ ∃ g, h' = some g ∧ W.heap.size ≤ g) :
    NumRel w w5 (W2.setCell ⟨B, 5, none⟩ mv') g q x2 l B c0 c1 c2 c3 c4 c6 c7 (k + 1) mv' := by
  have hsn := numbers_snoc (l.take k) l[k] x2.boxes
  rw [← List.take_succ_eq_append_getElem hk] at hsn
  have hsz := ht.chg.size
  have hwr := h.ch.size
  have hBw : B < wr.heap.size := h.blk.lt
  have hblkW : Blk W B 40 #[c0, c1, c2, c3, c4, mv, c6, c7] := h.blk.fresh (by omega) hw ht.chg
  have hne : ∀ b, hh = some b → b ≠ B := hs.ne_blk hblkW (by decide)
  have hc2 : Chg (B :: hh.toList) W (W2.setCell ⟨B, 5, none⟩ mv') := (hc.mono fun j hj => .inl (List.mem_cons_of_mem _ hj)).set (.inl (by simp)) mv'
  have hfr : ∀ j ∈ B :: hh.toList, w5.heap.size ≤ j := fun j hj => by
    rcases List.mem_cons.1 hj with rfl | hj
    · omega
    · exact hf j (by simpa using hj)
  have hnew : ∀ b, h' = some b → w5.heap.size ≤ b := fun b hb => by
    rcases ho with h1 | ⟨g2, h1, h2⟩
    · exact hf b (by rw [← h1]; exact hb)
    · rw [h1] at hb
      injection hb with hb
      omega
  have hneB : h' ≠ some B := fun e => by
    rcases ho with h1 | ⟨g2, h1, h2⟩
    · exact hne B (by rw [← h1]; exact e) rfl
    · rw [h1] at e
      injection e with e
      omega
  refine ⟨?_, ?_, ?_, ⟨h', ?_, hnew⟩⟩
  · rw [hsn]
    exact (h.st.trans ht).newer hw hc2 fun j hj => Nat.le_trans h5 (hfr j hj)
  · exact (h.ch.trans ht.chg (fun i hi => .inl hi)).trans hc2 fun i hi => .inr (hfr i hi)
  · exact (hblkW.chg hc (fun hm => hne B (by simpa using hm) rfl)).set 5 mv'
  · rw [hsn, flatG_append]
    exact hs2.far (p := ⟨B, 5, none⟩) hneB mv'

end Go.Proofs.YtmbibhphpjmboaaGreatDoor
