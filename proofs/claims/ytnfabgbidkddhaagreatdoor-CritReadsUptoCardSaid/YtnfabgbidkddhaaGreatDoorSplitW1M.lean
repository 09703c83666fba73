/-
  Words for field.Split: what the loop over the lines keeps, and what the loop over the gathered ones does.
-/
import Derived.Test.YtnfabgbidkddhaaGreatDoorGCF
namespace Go.Proofs.YtnfabgbidkddhaaGreatDoor
open Go.Shelf Go.RowKit

def gath (pre : List Ln) : List (List UInt8) := pre.foldl (fun g x => addLine g x.1.1) []
theorem gath_snoc (pre : List Ln) (x : Ln) : gath (pre ++ [x]) = addLine (gath pre) x.1.1 := by simp [gath]
theorem gatherF_from : ∀ (pre : List Ln) (r : List (List UInt8 × Nat)) (g : List (List UInt8)) (b : Nat), (∀ x ∈ pre, x.1.1 ≠ []) → gatherF (pre.map (·.1) ++ r) g b = gatherF r (pre.foldl (fun g x => addLine g x.1.1) g) b
  | [], _, _, _, _ => rfl
  | ⟨(t, p), hx⟩ :: pre, r, g, b, h => by
    have h0 : ¬ t = [] := h ⟨(t, p), hx⟩ (by simp)
    rw [List.map_cons, List.cons_append, gatherF, if_neg h0, gatherF_from pre r _ b (fun y hy => h y (by simp [hy]))]
    rfl
theorem gather_all {L : List (List UInt8 × Nat)} {pre : List Ln} {b : Nat} (hL : pre.map (·.1) = L) (h : ∀ x ∈ pre, x.1.1 ≠ []) : gatherF L [] b = (gath pre, b) := by
  have := gatherF_from pre [] [] b h
  rw [List.append_nil, hL] at this
  exact this
theorem gather_stop {L r : List (List UInt8 × Nat)} {pre : List Ln} {x : Ln} {b : Nat} (hL : (pre ++ [x]).map (·.1) ++ r = L) (h : ∀ x ∈ pre, x.1.1 ≠ []) (hx : x.1.1 = []) : gatherF L [] b = (gath pre, x.1.2) := by
  have h1 := gatherF_from pre (x.1 :: r) [] b h
  rw [List.map_append, List.append_assoc] at hL
  have h2 : pre.map (·.1) ++ x.1 :: r = L := hL
  rw [h2] at h1
  rw [h1]
  obtain ⟨⟨t, p⟩, hx3⟩ := x
  simp only at hx
  subst hx
  rfl

/-- The gathered lines' cell, the body's cell, all else as it was. -/
structure GSt (W0 W : World) (N : Nat) (g : List (List UInt8)) (bp : Nat) : Prop where
  cell : ∃ v h, Blk W (N + 1) 36 #[v] ∧ Sl W 9 1 v h g.length (g.map encStr) ∧ ∀ b, h = some b → N + 5 ≤ b
  body : Blk W N 3 #[.int .i64 bp]
  below : Below N W0 W
theorem GSt.abide {W0 W W' : World} {N : Nat} {g : List (List UInt8)} {bp : Nat} {S : List Nat} (h : GSt W0 W N g bp) (hc : Chg S W W') (hS : ∀ k ∈ S, N + 2 ≤ k ∧ ∀ t cs, W.heap[k]? ≠ some (.cells cs t (0, 0)) ∨ k < N + 5) (hsz : N ≤ W.heap.size) : GSt W0 W' N g bp := by
  obtain ⟨⟨v, hh, h1, h2, h3⟩, h4, h5⟩ := h
  refine ⟨⟨v, hh, h1.chg hc (fun hm => ?_), h2.chg hc (fun b hb hm => ?_), h3⟩, h4.chg hc (fun hm => ?_), h5.trans (hc.below hsz fun k hk => ?_)⟩
  · have := (hS _ hm).1
    omega
  · have h6 := h3 b hb
    rcases h2.2 with ⟨hn, _⟩ | ⟨b', off', cap', cur, hh', hv, hB, _⟩
    · rw [hb] at hn
      cases hn
    · rw [hb] at hh'
      obtain rfl := Option.some.inj hh'
      rcases (hS b hm).2 _ cur with h7 | h7
      · exact h7 hB
      · omega
  · have := (hS _ hm).1
    omega
  · have := (hS k hk).1
    omega

/-- Between two rounds. -/
structure GI (W0 W : World) (N len : Nat) (pre : List Ln) : Prop where
  st : GSt W0 W N (gath pre) len
  ne : ∀ x ∈ pre, x.1.1 ≠ []
  gne : ∀ t ∈ gath pre, t ≠ []
  sum : sumL (gath pre) ≤ pre.length * 2147483648
  glen : (gath pre).length ≤ pre.length
  size : N + 5 ≤ W.heap.size
/-- A round has left: a blank line has come. -/
structure GX (W0 W : World) (N : Nat) (pre : List Ln) : Prop where
  pre_ : ∃ p0 x, pre = p0 ++ [x] ∧ x.1.1 = [] ∧ GSt W0 W N (gath p0) x.1.2 ∧ (∀ x ∈ p0, x.1.1 ≠ []) ∧ (∀ t ∈ gath p0, t ≠ []) ∧ sumL (gath p0) ≤ p0.length * 2147483648 ∧ (gath p0).length ≤ p0.length
  size : N + 5 ≤ W.heap.size
theorem GI.abide {W0 W W' : World} {N len : Nat} {pre : List Ln} {S : List Nat} (h : GI W0 W N len pre) (hc : Chg S W W') (hS : ∀ k ∈ S, N + 2 ≤ k ∧ ∀ t cs, W.heap[k]? ≠ some (.cells cs t (0, 0)) ∨ k < N + 5) : GI W0 W' N len pre :=
  ⟨h.st.abide hc hS (by have := h.size; omega), h.ne, h.gne, h.sum, h.glen, Nat.le_trans h.size hc.size⟩
theorem GX.abide {W0 W W' : World} {N : Nat} {pre : List Ln} {S : List Nat} (h : GX W0 W N pre) (hc : Chg S W W') (hS : ∀ k ∈ S, N + 2 ≤ k ∧ ∀ t cs, W.heap[k]? ≠ some (.cells cs t (0, 0)) ∨ k < N + 5) : GX W0 W' N pre := by
  obtain ⟨⟨p0, x, h1, h2, h3, h4⟩, h5⟩ := h
  exact ⟨⟨p0, x, h1, h2, h3.abide hc hS (by omega), h4⟩, Nat.le_trans h5 hc.size⟩
theorem row_ok {W : World} {N : Nat} {row : Option Nat} (hr : ∀ r, row = some r → N + 5 ≤ r ∧ ∃ o : Obj, W.heap[r]? = some o ∧ o.isCells = false) : ∀ k ∈ row.toList, N + 2 ≤ k ∧ ∀ t cs, W.heap[k]? ≠ some (.cells cs t (0, 0)) ∨ k < N + 5 := by
  intro k hk
  obtain ⟨h1, o, h2, h3⟩ := hr k (by simpa using hk)
  refine ⟨by omega, fun t cs => .inl fun e => ?_⟩
  rw [h2] at e
  injection e with e
  subst e
  cases h3

theorem GI.own (W0 : World) (N len : Nat) : OwnFrom (N + 5) (fun pre W => GI W0 W N len pre) := fun _ _ _ row h hg hr => h.abide (Chg.of_grown hg) (row_ok (row := row) hr)
theorem GX.own (W0 : World) (N : Nat) : OwnFrom (N + 5) (fun pre W => GX W0 W N pre) := fun _ _ _ row h hg hr => h.abide (Chg.of_grown hg) (row_ok (row := row) hr)
theorem GI.cell3 {W0 W W' : World} {N len : Nat} {pre : List Ln} (h : GI W0 W N len pre) (hc : Chg [N + 3] W W') : GI W0 W' N len pre :=
  h.abide hc fun k hk => by
    simp only [List.mem_singleton] at hk
    subst hk
    exact ⟨by omega, fun _ _ => .inr (by omega)⟩
theorem GX.cell3 {W0 W W' : World} {N : Nat} {pre : List Ln} (h : GX W0 W N pre) (hc : Chg [N + 3] W W') : GX W0 W' N pre :=
  h.abide hc fun k hk => by
    simp only [List.mem_singleton] at hk
    subst hk
    exact ⟨by omega, fun _ _ => .inr (by omega)⟩

theorem keeps_of_blk {W W' : World} {S : List Nat} (hc : Chg S W W') (hS : ∀ k ∈ S, ∃ t cs, Blk W k t cs) : KeepsOthers W W' :=
  ⟨hc.size, fun k o hk ho => by
    have hlt : k < W.heap.size := (Array.getElem?_eq_some_iff.1 hk).1
    rw [hc.block k hlt (fun hm => by
      obtain ⟨t, cs, hB⟩ := hS k hm
      unfold Blk at hB
      rw [hk] at hB
      injection hB with hB
      subst hB
      cases ho)]
    exact hk⟩
theorem kpL_of {N : Nat} {W W' : World} {S : List Nat} (hc : Chg S W W') (hS : ∀ k ∈ S, k = N ∨ k = N + 1 ∨ N + 5 ≤ k) (hsz : N + 5 ≤ W.heap.size) : KpL (N + 3) (N + 4) (N + 2) W W' := by
  refine ⟨hc.block _ (by omega) fun hm => ?_, hc.block _ (by omega) fun hm => ?_, hc.block _ (by omega) fun hm => ?_⟩ <;> (have := hS _ hm; omega)
theorem Sl.isBlk {w : World} {e : TypeId} {size n : Nat} {v : Value} {h : Option Nat} {xs : List Value} (hs : Sl w e size v h n xs) : ∀ k ∈ h.toList, ∃ t cs, Blk w k t cs := by
  intro k hk
  have hk : h = some k := by simpa using hk
  rcases hs.2 with ⟨hn, _⟩ | ⟨b', off', cap', cur, hh, hv, hB, _⟩
  · rw [hk] at hn
    cases hn
  · rw [hk] at hh
    obtain rfl := Option.some.inj hh
    exact ⟨e, cur, hB⟩

/-- A line more. -/
theorem GI.push {w W w2 : World} {N len : Nat} {pre : List Ln} (h : GI w W N len pre) (x : Ln) (hne : x.1.1 ≠ []) (hadd : gath (pre ++ [x]) = gath pre ++ [x.1.1]) {n : Nat} (hn : (gath pre).length = n) {v v' : Value} {hh h' : Option Nat} (hB : Blk W (N + 1) 36 #[v]) (hs : Sl W 9 1 v hh n ((gath pre).map encStr)) (hf : ∀ b, hh = some b → N + 5 ≤ b)
    (hs2 : Sl w2 9 1 v' h' (n + 1) ((gath pre).map encStr ++ [encStr x.1.1])) (hc : Chg hh.toList W w2) (ho : h' = hh ∨ ∃ g, h' = some g ∧ W.heap.size ≤ g) :
    KeepsOthers W (w2.setCell ⟨N + 1, 0, none⟩ v') ∧ KpL (N + 3) (N + 4) (N + 2) W (w2.setCell ⟨N + 1, 0, none⟩ v') ∧ GI w (w2.setCell ⟨N + 1, 0, none⟩ v') N len (pre ++ [x]) := by
  subst hn
  have hsz := h.size
  have hc2 : Chg ((N + 1) :: hh.toList) W (w2.setCell ⟨N + 1, 0, none⟩ v') := (hc.mono fun k hk => .inl (List.mem_cons_of_mem _ hk)).set (.inl (by simp)) v'
  have hS : ∀ k ∈ (N + 1) :: hh.toList, k = N ∨ k = N + 1 ∨ N + 5 ≤ k := fun k hk => by
    rcases List.mem_cons.1 hk with rfl | hk
    · exact .inr (.inl rfl)
    · exact .inr (.inr (hf k (by simpa using hk)))
  have hnew : ∀ b, h' = some b → N + 5 ≤ b := fun b hb => by
    rcases ho with h1 | ⟨g, h1, h2⟩
    · exact hf b (by rw [← h1]; exact hb)
    · rw [h1] at hb
      injection hb with hb
      omega
  have hx := x.2.1
  refine ⟨keeps_of_blk hc2 fun k hk => ?_, kpL_of hc2 hS hsz, ⟨⟨⟨v', h', ?_, ?_, hnew⟩, ?_, ?_⟩, ?_, ?_, ?_, ?_, Nat.le_trans hsz hc2.size⟩⟩
  · rcases List.mem_cons.1 hk with rfl | hk
    · exact ⟨_, _, hB⟩
    · exact hs.isBlk k hk
  · exact (hB.chg hc (fun hm => by have := hf (N + 1) (by simpa using hm); omega)).set 0 v'
  · rw [hadd, List.length_append, List.length_singleton, List.map_append]
    exact hs2.far (p := ⟨N + 1, 0, none⟩) (fun e => by have := hnew _ e; simp at this) v'
  · exact (h.st.body.chg hc (fun hm => by have := hf N (by simpa using hm); omega)).far (p := ⟨N + 1, 0, none⟩) (by simp) v'
  · exact h.st.below.trans (hc2.below (by omega) fun k hk => by have := hS k hk; omega)
  · intro y hy
    rcases List.mem_append.1 hy with hy | hy
    · exact h.ne y hy
    · rw [List.mem_singleton] at hy
      subst hy
      exact hne
  · rw [gath_snoc]
    exact addLine_ne h.gne hne
  · rw [gath_snoc, addLine_sum, List.length_append, List.length_singleton]
    have := h.sum
    omega
  · rw [gath_snoc, List.length_append, List.length_singleton]
    have h1 := addLine_length (gath pre) x.1.1
    have h2 := h.glen
    omega

/-- A line goes on with the last one. -/
theorem GI.join {w W : World} {N len : Nat} {pre : List Ln} (h : GI w W N len pre) (x : Ln) (hne : x.1.1 ≠ []) (k : Nat) (hk : (gath pre).length = k + 1) (hk2 : k < (gath pre).length) (hadd : gath (pre ++ [x]) = (gath pre).set k ((gath pre)[k] ++ x.1.1)) {b off n cap : Nat} {hh : Option Nat} (hB : Blk W (N + 1) 36 #[.slice (some ⟨b, off, none⟩) n cap])
    (hn : (gath pre).length = n) (hs : Sl W 9 1 (.slice (some ⟨b, off, none⟩) n cap) hh n ((gath pre).map encStr)) (hf : ∀ b, hh = some b → N + 5 ≤ b) :
    KeepsOthers W (W.setCell ⟨b, off + k, none⟩ (encStr ((gath pre)[k] ++ x.1.1))) ∧ KpL (N + 3) (N + 4) (N + 2) W (W.setCell ⟨b, off + k, none⟩ (encStr ((gath pre)[k] ++ x.1.1))) ∧ GI w (W.setCell ⟨b, off + k, none⟩ (encStr ((gath pre)[k] ++ x.1.1))) N len (pre ++ [x]) := by
  have hsz := h.size
  subst hn
  have hb : hh = some b := hs.owner
  have hb5 := hf b hb
  have hc2 : Chg [b] W (W.setCell ⟨b, off + k, none⟩ (encStr ((gath pre)[k] ++ x.1.1))) := (Chg.refl [b] W).set (.inl (by simp)) _
  have hS : ∀ j ∈ [b], j = N ∨ j = N + 1 ∨ N + 5 ≤ j := fun j hj => by
    rw [List.mem_singleton] at hj
    subst hj
    exact .inr (.inr hb5)
  have hx := x.2.1
  refine ⟨keeps_of_blk hc2 fun j hj => ?_, kpL_of hc2 hS hsz, ⟨⟨⟨.slice (some ⟨b, off, none⟩) (gath pre).length cap, hh, ?_, ?_, hf⟩, ?_, ?_⟩, ?_, ?_, ?_, ?_, Nat.le_trans hsz hc2.size⟩⟩
  · rw [List.mem_singleton] at hj
    subst hj
    exact hs.isBlk j (by rw [hb]; simp)
  · exact hB.far (p := ⟨b, off + k, none⟩) (by simp only; omega) _
  · have h1 := hs.store k (encStr ((gath pre)[k] ++ x.1.1))
    rw [hadd, List.length_set, List.map_set]
    exact h1
  · exact h.st.body.far (p := ⟨b, off + k, none⟩) (by simp only; omega) _
  · exact h.st.below.trans (hc2.below (by omega) fun j hj => by have := hS j hj; omega)
  · intro y hy
    rcases List.mem_append.1 hy with hy | hy
    · exact h.ne y hy
    · rw [List.mem_singleton] at hy
      subst hy
      exact hne
  · rw [gath_snoc]
    exact addLine_ne h.gne hne
  · rw [gath_snoc, addLine_sum, List.length_append, List.length_singleton]
    have := h.sum
    omega
  · rw [gath_snoc, List.length_append, List.length_singleton]
    have h1 := addLine_length (gath pre) x.1.1
    have h2 := h.glen
    omega

/-- A blank line. -/
theorem GI.stop {w W : World} {N len : Nat} {pre : List Ln} (h : GI w W N len pre) (x : Ln) (hx : x.1.1 = []) : KeepsOthers W (W.setCell ⟨N, 0, none⟩ (.int .i64 (x.1.2 : Nat))) ∧ GX w (W.setCell ⟨N, 0, none⟩ (.int .i64 (x.1.2 : Nat))) N (pre ++ [x]) := by
  have hsz := h.size
  have hc2 : Chg [N] W (W.setCell ⟨N, 0, none⟩ (.int .i64 (x.1.2 : Nat))) := (Chg.refl [N] W).set (.inl (by simp)) _
  obtain ⟨v, hh, h1, h2, h3⟩ := h.st.cell
  refine ⟨keeps_of_blk hc2 fun j hj => ?_, ⟨⟨pre, x, rfl, hx, ⟨⟨v, hh, ?_, ?_, h3⟩, ?_, ?_⟩, h.ne, h.gne, h.sum, h.glen⟩, Nat.le_trans hsz hc2.size⟩⟩
  · rw [List.mem_singleton] at hj
    subst hj
    exact ⟨_, _, h.st.body⟩
  · exact h1.far (p := ⟨N, 0, none⟩) (by simp) _
  · exact h2.far (p := ⟨N, 0, none⟩) (fun e => by have := h3 _ e; simp at this; omega) _
  · exact h.st.body.set 0 _
  · exact h.st.below.trans (hc2.below (by omega) fun j hj => by simp at hj; omega)

theorem addLine_last {g : List (List UInt8)} {t : List UInt8} {k : Nat} (hk : g.length = k + 1) (hk2 : k < g.length) (hb : blankB t = true) : addLine g t = g.set k (g[k] ++ t) := by
  have hne : g ≠ [] := by
    rintro rfl
    simp at hk
  obtain ⟨g', z, rfl⟩ : ∃ g' z, g = g' ++ [z] := ⟨g.dropLast, g.getLast hne, (List.dropLast_concat_getLast _).symm⟩
  have hl : g'.length = k := by simpa using hk
  subst hl
  unfold addLine
  rw [if_pos ⟨hne, hb⟩]
  simp
theorem addLine_new {g : List (List UInt8)} {t : List UInt8} (hb : g = [] ∨ blankB t = false) : addLine g t = g ++ [t] := by
  unfold addLine
  rw [if_neg]
  rintro ⟨h1, h2⟩
  rcases hb with hb | hb
  · exact h1 hb
  · rw [hb] at h2
    cases h2

/-- .. the append law in a round's walk. -/
theorem wpListIn_append_sl {F : Fence} {n' : Nat} {P : Program} {W : World} {cs : Array Value} {e' : TypeId} {ops : Array Oper} {rest : List Oper} {o : Oper} {a : Act} {Q : Exit → Act → World → Prop}
    (hgd : o.guard = none) (s x : Operand) (t : TypeId)
    (ho : o.op = .call { callee := .builtin .append, args := #[s, x], argTypes := #[t, t] })
    {e : TypeId} {i : TypeInfo} {z : Value} {size bytes : Nat} (ht : P.underlying t = some (.slice e)) (hi : P.info? e = some i) (hz : i.zero = some z)
    (hsize : i.size = size) (hby : i.bytes = bytes) (hzs : z.cells.size = size) (hsz : 0 < size)
    {v : Value} {h : Option Nat} {n : Nat} {xs : List Value} (hsl : Sl W e size v h n xs) (hs : a.eval s = v)
    (m c : Nat) (hx : a.eval x = .slice (some ⟨W.heap.size, 0, none⟩) m c) (hl : cs.toList.length = m * size) (h1 : ∀ u ∈ cs.toList, u.oneCell' = true)
    (h63 : n + m ≤ maxLen) (hbytes : (n + m) * bytes ≤ 140737488355328)
    (hk : ∀ v' h' w', Sl w' e size v' h' (n + m) (xs ++ cs.toList) → Chg h.toList W w' → (h' = h ∨ ∃ g, h' = some g ∧ W.heap.size ≤ g) → wpListIn F n' P ops Q rest (a.put o.dst v') w') :
    wpListIn F n' P ops Q (o :: rest) a (W.alloc (.cells cs e')) := by
  refine wpListIn_plain hgd fun K hK' => ?_
  obtain ⟨v', h', w', hr, r1, r2, r3⟩ := run_append_sl (P := P) (W.alloc (.cells cs e')) (ty := o.type) ht hi hz hsize hby hzs hsz (hsl.alloc _) ⟨W.heap.size, 0, none⟩ m c cs.toList hl (fun j u hj => by
    rw [Addr.add_zero_off, World.cell?_alloc_at _ _ _ _ rfl]
    simpa using hj) h1 h63 hbytes
  unfold Oper.wpIn
  refine ⟨?_, ?_⟩
  · simp [Oper.about, ho, resolve, Target.leads, Sem.run_pure]
  · rw [Oper.semAt_plain F _ _ (by rw [ho]; intro c hc'; cases hc')]
    simp [execOp, ho, resolve, invoke, builtin, hs, hx, hr, Result.andThen]
    refine hK' _ _ (hk v' h' w' r1 ⟨r2.os, r2.tape, r2.output, Nat.le_trans (by simp) r2.size, fun k hk hn => (r2.block k (by simp; omega) hn).trans (Below.heap_alloc _ _ _ hk)⟩ ?_)
    rcases r3 with h2 | ⟨g, h2, h3⟩
    · exact .inl h2
    · exact .inr ⟨g, h2, by simp at h3; omega⟩

/-! ### The fields -/
theorem fieldsG_append (a b : List (List UInt8)) : fieldsG (a ++ b) = fieldsG a ++ fieldsG b := by simp [fieldsG]
def fieldOf (s : List UInt8) : List (List UInt8 × List UInt8) := if (oneF s).2 then [(oneF s).1] else []
theorem fieldsG_one (s : List UInt8) : fieldsG [s] = fieldOf s := by
  unfold fieldsG fieldOf
  by_cases h : (oneF s).2 = true <;> simp [h]
theorem fieldsF_zero (s : List UInt8) (r : List (List UInt8)) : fieldsF ((s :: r).take 1) = if blankB s = true then [] else fieldOf s := by
  show fieldsG (if blankB s = true then [] else [s]) = _
  split
  · rfl
  · exact fieldsG_one s
theorem fieldsF_succ (g : List (List UInt8)) (k : Nat) (hk : k < g.length) (h0 : 0 < k) : fieldsF (g.take (k + 1)) = fieldsF (g.take k) ++ fieldOf g[k] := by
  rw [List.take_succ_eq_append_getElem hk]
  cases g with
  | nil => simp at hk
  | cons s r =>
    obtain ⟨j, rfl⟩ : ∃ j, k = j + 1 := ⟨k - 1, by omega⟩
    rw [List.take_succ_cons, List.cons_append]
    show fieldsG (if blankB s = true then _ else _) = fieldsG (if blankB s = true then _ else _) ++ _
    split
    · rw [fieldsG_append, fieldsG_one]
    · rw [← List.cons_append, fieldsG_append, fieldsG_one]

theorem linesF_length : ∀ (f : Nat) (s : List UInt8) (p : Nat), (linesF f s p).length ≤ f
  | 0, _, _ => by simp [linesF]
  | f + 1, s, p => by
    unfold linesF
    split
    · simp
    · split
      · simp
      · have := linesF_length f (s.drop ((Lib.indexByte s 10).toNat + 1)) (p + ((Lib.indexByte s 10).toNat + 1))
        simp only [List.length_cons]
        omega

theorem fieldsF_le (g : List (List UInt8)) (k : Nat) : (fieldsF (g.take k)).length ≤ k := by
  have h : ∀ l : List (List UInt8), (fieldsF l).length ≤ l.length := by
    intro l
    cases l with
    | nil => simp [fieldsF]
    | cons s r =>
      show (fieldsG _).length ≤ _
      unfold fieldsG
      refine Nat.le_trans (List.length_filterMap_le _ _) ?_
      split <;> simp
  exact Nat.le_trans (h _) (by rw [List.length_take]; omega)
def sumP (l : List (List UInt8 × Nat)) : Nat := (l.map fun x => x.1.length).sum
theorem sumP_append (a b : List (List UInt8 × Nat)) : sumP (a ++ b) = sumP a + sumP b := by simp [sumP]
theorem linesF_sum : ∀ (f : Nat) (s : List UInt8) (p : Nat), sumP (linesF f s p) ≤ s.length
  | 0, _, _ => by simp [linesF, sumP]
  | f + 1, s, p => by
    unfold linesF
    split
    · simp [sumP]
    · split
      · simp [sumP]
      · rename_i h2
        have h1 := linesF_sum f (s.drop ((Lib.indexByte s 10).toNat + 1)) (p + ((Lib.indexByte s 10).toNat + 1))
        have h3 := trimSuffix_le (s.take (Lib.indexByte s 10).toNat) [13]
        have h4 := indexByte_lt s 10 h2
        simp only [List.length_drop, List.length_take] at h1 h3
        have h5 : ∀ (t : List UInt8) (q : Nat) (l : List (List UInt8 × Nat)), sumP ((t, q) :: l) = t.length + sumP l := fun t q l => by simp [sumP]
        rw [h5]
        omega
theorem sumL_gath (pre : List Ln) : sumL (gath pre) = sumP (pre.map (·.1)) := by
  have h : ∀ (l : List Ln) (g : List (List UInt8)), sumL (l.foldl (fun g x => addLine g x.1.1) g) = sumL g + sumP (l.map (·.1)) := by
    intro l
    induction l with
    | nil => intro g; simp [sumP]
    | cons x r ih =>
      intro g
      rw [List.foldl_cons, ih, addLine_sum]
      simp [sumP]
      omega
  have := h pre []
  simpa [gath, sumL] using this

/-- Behind the loop over the lines. -/
structure GF (W0 W : World) (N : Nat) (s : List UInt8) (g : List (List UInt8)) (bp : Nat) : Prop where
  st : GSt W0 W N g bp
  gne : ∀ t ∈ g, t ≠ []
  sum : sumL g ≤ 2147483648
  glen : g.length ≤ 2147483648
  size : N + 5 ≤ W.heap.size
  fields : (splitF s).1 = fieldsF g
  body : (splitF s).2 = bp
theorem GI.gf {W0 W : World} {N : Nat} {s : List UInt8} {xs : List Ln} (h : GI W0 W N s.length xs) (hs : s.length ≤ 2147483648) (hS : xs.map (·.1) = linesF s.length s 0) : GF W0 W N s (gath xs) s.length := by
  have h1 := gather_all (b := s.length) hS h.ne
  have h2 : xs.length ≤ s.length := by
    have := linesF_length s.length s 0
    rw [← hS, List.length_map] at this
    exact this
  have h3 : sumL (gath xs) ≤ s.length := by
    rw [sumL_gath, hS]
    exact linesF_sum _ _ _
  have h4 := h.glen
  have e1 : (splitF s).1 = fieldsF (gath xs) := by
    unfold splitF
    rw [h1]
  have e2 : (splitF s).2 = s.length := by
    unfold splitF
    rw [h1]
  exact ⟨h.st, h.gne, Nat.le_trans h3 hs, Nat.le_trans h4 (Nat.le_trans h2 hs), h.size, e1, e2⟩
theorem GX.gf {W0 W : World} {N : Nat} {s : List UInt8} {pre : List Ln} (h : GX W0 W N pre) (hs : s.length ≤ 2147483648) (hS : ∃ r, pre.map (·.1) ++ r = linesF s.length s 0) : ∃ g bp, GF W0 W N s g bp := by
  obtain ⟨⟨p0, x, rfl, hx, hst, hne, hgne, _, hgl⟩, hsz⟩ := h
  obtain ⟨r, hr⟩ := hS
  have h1 := gather_stop (b := s.length) hr hne hx
  have h2 : p0.length ≤ s.length := by
    have := linesF_length s.length s 0
    rw [← hr] at this
    simp only [List.length_append, List.length_map, List.length_singleton] at this
    omega
  have h5 : sumL (gath p0) ≤ s.length := by
    have h6 := linesF_sum s.length s 0
    rw [← hr, List.map_append, sumP_append, sumP_append] at h6
    rw [sumL_gath]
    omega
  have e1 : (splitF s).1 = fieldsF (gath p0) := by
    unfold splitF
    rw [h1]
  have e2 : (splitF s).2 = x.1.2 := by
    unfold splitF
    rw [h1]
  exact ⟨gath p0, x.1.2, hst, hgne, Nat.le_trans h5 hs, Nat.le_trans hgl (Nat.le_trans h2 hs), hsz, e1, e2⟩

/-- What the loop over the gathered lines keeps. -/
structure FRel (w wr : World) (N : Nat) (g : List (List UInt8)) (bp D : Nat) (gv : Value) (hg : Option Nat) (k : Nat) (f : Value) : Prop where
  fs : ∃ h, Sl wr 91 2 f h (fieldsF (g.take k)).length (flatG encF (fieldsF (g.take k))) ∧ ∀ b, h = some b → N ≤ b
  gs : Sl wr 9 1 gv hg g.length (g.map encStr)
  gf : ∀ b, hg = some b → N ≤ b
  body : Blk wr N 3 #[.int .i64 bp]
  below : Below N w wr
  dD : wr.heap[D]? = some (.deferred (some []))
theorem FRel.later {w wr W : World} {N : Nat} {g : List (List UInt8)} {bp D : Nat} {gv : Value} {hg : Option Nat} {k : Nat} {f : Value} (h : FRel w wr N g bp D gv hg k f) (hN : N ≤ wr.heap.size) (hb : Below wr.heap.size wr W) : FRel w W N g bp D gv hg k f := by
  obtain ⟨hh, h1, h2⟩ := h.fs
  exact ⟨⟨hh, h1.keep (fun b hb2 => hb.block b (h1.lt b hb2)), h2⟩, h.gs.keep (fun b hb2 => hb.block b (h.gs.lt b hb2)), h.gf, h.body.below hb h.body.lt, h.below.trans (hb.mono hN), (hb.block D (Array.getElem?_eq_some_iff.1 h.dD).1).trans h.dD⟩
theorem FRel.same {w wr : World} {N : Nat} {g : List (List UInt8)} {bp D : Nat} {gv : Value} {hg : Option Nat} {k k' : Nat} {f : Value} (h : FRel w wr N g bp D gv hg k f) (he : fieldsF (g.take k') = fieldsF (g.take k)) : FRel w wr N g bp D gv hg k' f := by
  refine ⟨?_, h.gs, h.gf, h.body, h.below, h.dD⟩
  rw [he]
  exact h.fs
theorem FRel.more {w wr W2 : World} {N : Nat} {g : List (List UInt8)} {bp D : Nat} {gv : Value} {hg : Option Nat} {k : Nat} {f f' : Value} {x : List UInt8 × List UInt8} (h : FRel w wr N g bp D gv hg k f) (hN : N ≤ wr.heap.size) (he : fieldsF (g.take (k + 1)) = fieldsF (g.take k) ++ [x]) {hh h' : Option Nat} (hs : Sl wr 91 2 f hh (fieldsF (g.take k)).length (flatG encF (fieldsF (g.take k)))) (hf : ∀ b, hh = some b → N ≤ b)
    (hs2 : Sl W2 91 2 f' h' ((fieldsF (g.take k)).length + 1) (flatG encF (fieldsF (g.take k)) ++ encF x)) (hc : Chg hh.toList wr W2) (ho : h' = hh ∨ ∃ g, h' = some g ∧ wr.heap.size ≤ g) : FRel w W2 N g bp D gv hg (k + 1) f' := by
  refine ⟨⟨h', ?_, fun b hb => ?_⟩, h.gs.chg hc (fun b hb hm => h.gs.ne_sl hs (by decide) b hb (by simpa using hm)), h.gf, h.body.chg hc (fun hm => hs.ne_blk h.body (by decide) N (by simpa using hm) rfl), h.below.trans (hc.below hN fun k hk => hf k (by simpa using hk)), ?_⟩
  · rw [he, List.length_append, List.length_singleton, flatG_snoc]
    exact hs2
  · rcases ho with h3 | ⟨g2, h3, h4⟩
    · exact hf b (by rw [← h3]; exact hb)
    · rw [h3] at hb
      injection hb with hb
      omega
  · refine (hc.block D (Array.getElem?_eq_some_iff.1 h.dD).1 fun hm => ?_).trans h.dD
    obtain ⟨t, cs, hB⟩ := hs.isBlk D hm
    unfold Blk at hB
    rw [h.dD] at hB
    cases hB

theorem FRel.done {w wr : World} {N : Nat} {g : List (List UInt8)} {bp D : Nat} {gv : Value} {hg : Option Nat} {k : Nat} {f : Value} (h : FRel w wr N g bp D gv hg k f) (hND : N ≠ D) (hN : N ≤ wr.heap.size) (hD : N ≤ D) :
    (∃ hh, Sl ((wr.drew.setCell ⟨N, 0, none⟩ (.int .i64 bp)).putObj D (.deferred none)) 91 2 f hh (fieldsF (g.take k)).length (flatG encF (fieldsF (g.take k))) ∧ ∀ b, hh = some b → N ≤ b) ∧ Below N w ((wr.drew.setCell ⟨N, 0, none⟩ (.int .i64 bp)).putObj D (.deferred none)) ∧
      ((wr.drew.setCell ⟨N, 0, none⟩ (.int .i64 bp)).putObj D (.deferred none)).cell? ⟨N, 0, none⟩ = some (.int .i64 bp) ∧ (wr.drew.setCell ⟨N, 0, none⟩ (.int .i64 bp)).heap[D]? = some (.deferred (some [])) := by
  have hdD : (wr.drew.setCell ⟨N, 0, none⟩ (.int .i64 bp)).heap[D]? = some (.deferred (some [])) := (Below.heap_setCell wr.drew ⟨N, 0, none⟩ _ D (fun e => hND e.symm)).trans h.dD
  have hbody : Blk (wr.drew.setCell ⟨N, 0, none⟩ (.int .i64 bp)) N 3 #[.int .i64 bp] := (h.body.heap (w' := wr.drew) rfl).set 0 _
  have hc : Chg [N, D] wr ((wr.drew.setCell ⟨N, 0, none⟩ (.int .i64 bp)).putObj D (.deferred none)) := by
    have hc0 : Chg [N, D] wr (wr.drew.setCell ⟨N, 0, none⟩ (.int .i64 bp)) := ((Chg.refl [N, D] wr).drew).set (.inl (by simp)) _
    refine ⟨hc0.os, hc0.tape, hc0.output, by rw [World.putObj_size]; exact hc0.size, fun j hj hn => ?_⟩
    have hn2 : ¬ j = N ∧ ¬ j = D := by simpa using hn
    exact (World.putObj_heap_other hn2.2).trans (hc0.block j hj hn)
  obtain ⟨hh, h1, h2⟩ := h.fs
  refine ⟨⟨hh, h1.chg hc (fun b hb hm => ?_), h2⟩, h.below.trans (hc.below hN fun j hj => ?_), ?_, hdD⟩
  · simp only [List.mem_cons, List.not_mem_nil, or_false] at hm
    rcases hm with rfl | rfl
    · exact h1.ne_blk h.body (by decide) b hb rfl
    · obtain ⟨t, cs, hB⟩ := h1.isBlk b (by simpa using hb)
      unfold Blk at hB
      rw [h.dD] at hB
      cases hB
  · simp only [List.mem_cons, List.not_mem_nil, or_false] at hj
    omega
  · have hB : Blk ((wr.drew.setCell ⟨N, 0, none⟩ (.int .i64 bp)).putObj D (.deferred none)) N 3 #[.int .i64 bp] := (World.putObj_heap_other hND).trans hbody
    exact hB.cell 0

theorem cut_le (s sep : List UInt8) : (Lib.cut s sep).1.length ≤ s.length ∧ (Lib.cut s sep).2.1.length ≤ s.length := by
  unfold Lib.cut
  split
  · simp only [List.length_take, List.length_drop]
    omega
  · simp
theorem sumL_mem {g : List (List UInt8)} {t : List UInt8} (h : t ∈ g) : t.length ≤ sumL g := by
  obtain ⟨a, b, rfl⟩ := List.append_of_mem h
  rw [sumL_append, show t :: b = [t] ++ b from rfl, sumL_append]
  have : sumL [t] = t.length := by simp [sumL]
  omega

end Go.Proofs.YtnfabgbidkddhaaGreatDoor
