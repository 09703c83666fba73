/-
  The reference's search in memory: what a step of it keeps.
-/
import Derived.Test.YtnfabgbidkddhaaGreatDoorGRB
namespace Go.Proofs.YtnfabgbidkddhaaGreatDoor
open Go.RowKit

/-- The search: its block; the words to come, the terms put, the flags. -/
structure SAt (w0 w : World) (g : Nat) (uv : Value) (E : CEnv) (ws : List WT) (out : Out) (mod bad : Bool) (h : Hn) : Prop where
  rd : ∃ wv fv xs pre, Blk w g 67 #[wv, .int .i64 ((pre.length : Nat) : Int), fv, .int .i64 E.box, uv, .bool mod, .bool bad] ∧ WsAt w0 wv (pre ++ ws) ∧ Sl w 57 6 fv h.b out.length xs ∧ OutAt w h.f out xs
  bel : Below w0.heap.size w0 w
  lo : w0.heap.size ≤ g ∧ ∀ b, h.b = some b → w0.heap.size ≤ b
  ok : okL ws
  fl : ∀ b, h.f b → b < w.heap.size

/-- From one state of the search to another. -/
structure SSt (w0 w w' : World) (g : Nat) (uv : Value) (E : CEnv) (h : Hn) (ws' : List WT) (out' : Out) (mod' bad' : Bool) (h' : Hn) : Prop where
  at_ : SAt w0 w' g uv E ws' out' mod' bad' h'
  chg : Chg (g :: h.b.toList) w w'
  new : h'.b = h.b ∨ ∃ b, h'.b = some b ∧ w.heap.size ≤ b
  fnew : ∀ b, h'.f b → h.f b ∨ w.heap.size ≤ b

section
variable {w0 w w' w'' : World} {g : Nat} {uv : Value} {E : CEnv} {ws ws' : List WT} {out out' : Out} {mod mod' bad bad' : Bool} {h h' h'' : Hn}

theorem Sl.blkOfS {o : Option Nat} {e : TypeId} {size n : Nat} {v : Value} {xs : List Value} (hs : Sl w e size v o n xs) : ∀ b, o = some b → ∃ cur, Blk w b e cur := Sl.blkOf hs
theorem SAt.ne (s : SAt w0 w g uv E ws out mod bad h) : h.b ≠ some g := by
  obtain ⟨wv, fv, xs, pre, hg, _, hs, _⟩ := s.rd
  exact fun e => hs.ne_blk hg (by decide) g e rfl
theorem SAt.refl (s : SAt w0 w g uv E ws out mod bad h) : SSt w0 w w g uv E h ws out mod bad h := ⟨s, Chg.refl _ _, .inl rfl, fun _ h => .inl h⟩
theorem SAt.own (s : SAt w0 w g uv E ws out mod bad h) : ∀ k ∈ g :: h.b.toList, ∃ e cs, Blk w k e cs ∧ e ≠ 75 ∧ e ≠ 3 := by
  obtain ⟨wv, fv, xs, pre, hg, _, hs, _⟩ := s.rd
  intro k hk
  simp only [List.mem_cons, Option.mem_toList] at hk
  rcases hk with rfl | hk
  · exact ⟨_, _, hg, by decide, by decide⟩
  · obtain ⟨cur, hB⟩ := hs.blkOf k hk
    exact ⟨_, _, hB, by decide, by decide⟩
theorem SAt.apart (s : SAt w0 w g uv E ws out mod bad h) {b : Nat} {e : TypeId} {cs : Array Value} (hB : Blk w b e cs) (h1 : e ≠ 67) (h4 : e ≠ 57) : b ∉ g :: h.b.toList := by
  obtain ⟨wv, fv, xs, pre, hg, _, hs, _⟩ := s.rd
  simp only [List.mem_cons, Option.mem_toList, not_or]
  refine ⟨hB.ne hg h1, fun e2 => ?_⟩
  exact hs.ne_blk hB (fun e3 => h4 e3.symm) b e2 rfl
theorem SSt.other (s : SAt w0 w g uv E ws out mod bad h) (k : SSt w0 w w' g uv E h ws' out' mod' bad' h') {b : Nat} {e : TypeId} {cs : Array Value} (hB : Blk w b e cs) (h1 : e ≠ 67) (h4 : e ≠ 57) : Blk w' b e cs :=
  hB.chg k.chg (s.apart hB h1 h4)
theorem SSt.ints (s : SAt w0 w g uv E ws out mod bad h) (k : SSt w0 w w' g uv E h ws' out' mod' bad' h') {o : Option Nat} {n : Nat} {v : Value} {xs : List Value} (hs : Sl w 3 1 v o n xs) : Sl w' 3 1 v o n xs :=
  hs.chg k.chg fun b hb => by
    obtain ⟨cur, hB⟩ := hs.blkOf b hb
    exact s.apart hB (by decide) (by decide)
theorem SSt.trans (k : SSt w0 w w' g uv E h ws out mod bad h') (k' : SSt w0 w' w'' g uv E h' ws' out' mod' bad' h'') : SSt w0 w w'' g uv E h ws' out' mod' bad' h'' := by
  refine ⟨k'.at_, k.chg.trans k'.chg fun i hi => ?_, ?_, fun b hb => ?_⟩
  · simp only [List.mem_cons, Option.mem_toList] at hi ⊢
    rcases hi with hi | hi
    · exact .inl (.inl hi)
    · rcases k.new with h1 | ⟨b, h1, h2⟩
      · exact .inl (.inr (by rw [← h1]; exact hi))
      · rw [h1] at hi
        injection hi with hi
        exact .inr (by omega)
  · rcases k'.new with h1 | ⟨b, h1, h2⟩
    · rw [h1]
      exact k.new
    · exact .inr ⟨b, h1, Nat.le_trans k.chg.size h2⟩
  · rcases k'.fnew b hb with h1 | h1
    · exact k.fnew b h1
    · exact .inr (Nat.le_trans k.chg.size h1)
theorem SAt.below (s : SAt w0 w g uv E ws out mod bad h) (hb : Below w.heap.size w w') : SAt w0 w' g uv E ws out mod bad h := by
  obtain ⟨wv, fv, xs, pre, hg, hw, hs, hx⟩ := s.rd
  exact ⟨⟨wv, fv, xs, pre, hg.below hb hg.lt, hw, hs.chg (Chg.of_below hb []) (by simp), OutAt.keep (fun b e cs hB _ => hb.block b hB.lt) _ _ hx⟩, s.bel.trans (hb.mono s.bel.size), s.lo, s.ok, fun b hf => Nat.lt_of_lt_of_le (s.fl b hf) hb.size⟩
theorem SAt.still (s : SAt w0 w g uv E ws out mod bad h) (hb : Below w.heap.size w w') : SSt w0 w w' g uv E h ws out mod bad h := ⟨s.below hb, Chg.of_below hb _, .inl rfl, fun _ h => .inl h⟩
theorem SSt.below (k : SSt w0 w w' g uv E h ws out mod bad h') (hb : Below w'.heap.size w' w'') : SSt w0 w w'' g uv E h ws out mod bad h' := k.trans (k.at_.still hb)
theorem SSt.after (k : SSt w0 w' w'' g uv E h ws out mod bad h') (hb : Below w.heap.size w w') : SSt w0 w w'' g uv E h ws out mod bad h' :=
  ⟨k.at_, (Chg.of_below hb (g :: h.b.toList)).trans k.chg fun i hi => .inl hi, by
    rcases k.new with h1 | ⟨b, h1, h2⟩
    · exact .inl h1
    · exact .inr ⟨b, h1, Nat.le_trans hb.size h2⟩, fun b hf => (k.fnew b hf).imp id fun h => Nat.le_trans hb.size h⟩
/-- One cell of the search's own block turned. -/
theorem SAt.cellset (s : SAt w0 w g uv E ws out mod bad h) (i : Nat) (v : Value) : Chg (g :: h.b.toList) w (w.setCell ⟨g, i, none⟩ v) ∧ (∀ (fv : Value) (xs : List Value), Sl w 57 6 fv h.b out.length xs → Sl (w.setCell ⟨g, i, none⟩ v) 57 6 fv h.b out.length xs) ∧ (∀ xs, OutAt w h.f out xs → OutAt (w.setCell ⟨g, i, none⟩ v) h.f out xs) ∧ Below w0.heap.size w0 (w.setCell ⟨g, i, none⟩ v) := by
  have hch : Chg (g :: h.b.toList) w (w.setCell ⟨g, i, none⟩ v) := (Chg.refl _ w).set (p := ⟨g, i, none⟩) (.inl (by simp)) v
  refine ⟨hch, fun fv xs hs => hs.far (p := ⟨g, i, none⟩) s.ne _, fun xs hx => OutAt.keep (SKeep.of_chg hch s.own) _ _ hx, ?_⟩
  refine s.bel.trans (hch.below s.bel.size fun k hk => ?_)
  simp only [List.mem_cons, Option.mem_toList] at hk
  rcases hk with rfl | hk
  · exact s.lo.1
  · exact s.lo.2 k hk
/-- A word taken. -/
theorem SAt.take {t : WT} (s : SAt w0 w g uv E (t :: ws) out mod bad h) (i : Int) (hi : w.cell? ⟨g, 1, none⟩ = some (.int .i64 i)) : SSt w0 w (w.setCell ⟨g, 1, none⟩ (.int .i64 (i + 1))) g uv E h ws out mod bad h := by
  obtain ⟨c1, c2, c3, c4⟩ := s.cellset 1 (.int .i64 (i + 1))
  obtain ⟨wv, fv, xs, pre, hg, hw, hs, hx⟩ := s.rd
  have hi2 : i = (pre.length : Nat) := by
    have h1 := (hg.cell 1).symm.trans hi
    simpa using h1.symm
  subst hi2
  have hok := s.ok
  unfold okL at hok
  have hB := hg.set 1 (.int .i64 (((pre.length : Nat) : Int) + 1))
  refine ⟨⟨⟨wv, fv, xs, pre ++ [t], ?_, by rw [List.append_assoc]; exact hw, c2 _ _ hs, c3 _ hx⟩, c4, s.lo, hok.2, fun b hb => Nat.lt_of_lt_of_le (s.fl b hb) c1.size⟩, c1, .inl rfl, fun _ h => .inl h⟩
  rw [List.length_append, List.length_singleton]
  exact hB
/-- The flag of faults set. -/
theorem SAt.setBad (s : SAt w0 w g uv E ws out mod bad h) (b : Bool) : SSt w0 w (w.setCell ⟨g, 6, none⟩ (.bool b)) g uv E h ws out mod b h := by
  obtain ⟨c1, c2, c3, c4⟩ := s.cellset 6 (.bool b)
  obtain ⟨wv, fv, xs, pre, hg, hw, hs, hx⟩ := s.rd
  exact ⟨⟨⟨wv, fv, xs, pre, hg.set 6 (.bool b), hw, c2 _ _ hs, c3 _ hx⟩, c4, s.lo, s.ok, fun b hb => Nat.lt_of_lt_of_le (s.fl b hb) c1.size⟩, c1, .inl rfl, fun _ h => .inl h⟩
/-- The flag of clocks set. -/
theorem SAt.setMod (s : SAt w0 w g uv E ws out mod bad h) (b : Bool) : SSt w0 w (w.setCell ⟨g, 5, none⟩ (.bool b)) g uv E h ws out b bad h := by
  obtain ⟨c1, c2, c3, c4⟩ := s.cellset 5 (.bool b)
  obtain ⟨wv, fv, xs, pre, hg, hw, hs, hx⟩ := s.rd
  exact ⟨⟨⟨wv, fv, xs, pre, hg.set 5 (.bool b), hw, c2 _ _ hs, c3 _ hx⟩, c4, s.lo, s.ok, fun b hb => Nat.lt_of_lt_of_le (s.fl b hb) c1.size⟩, c1, .inl rfl, fun _ h => .inl h⟩
/-- Whatever of another type was there is as it was; what stands in its own block. -/
theorem SAt.cells (s : SAt w0 w g uv E ws out mod bad h) : ∃ wv A cap pre, WsAt w0 wv (pre ++ ws) ∧ w.cell? ⟨g, 0, none⟩ = some wv ∧ w.cell? ⟨g, 1, none⟩ = some (.int .i64 ((pre.length : Nat) : Int)) ∧ w.cell? ⟨g, 2, none⟩ = some (.slice A out.length cap) ∧ w.cell? ⟨g, 3, none⟩ = some (.int .i64 E.box) ∧ w.cell? ⟨g, 4, none⟩ = some uv ∧
    w.cell? ⟨g, 5, none⟩ = some (.bool mod) ∧ w.cell? ⟨g, 6, none⟩ = some (.bool bad) ∧ (∀ i, i < 7 → w.frozen? ⟨g, i, none⟩ = false) ∧ g < w.heap.size := by
  obtain ⟨wv, fv, xs, pre, hg, hw, hs, hx⟩ := s.rd
  obtain ⟨A, cap, rfl, _, _⟩ := hs.form
  refine ⟨wv, A, cap, pre, hw, hg.cell 0, hg.cell 1, hg.cell 2, hg.cell 3, hg.cell 4, hg.cell 5, hg.cell 6, fun i _ => hg.frozen i, hg.lt⟩
/-- A term put behind the others. -/
theorem SAt.push (s : SAt w0 w g uv E ws out mod bad h) {F : Nat → Prop} (hF : ∀ b, h.f b → F b) (hFl : ∀ b, F b → b < w.heap.size) {t : Tm} {sv kv : Value} (ht : TmOk w F t sv kv) {xs : List Value} (hx : OutAt w h.f out xs) (c : Obj)
    {v' : Value} {hb' : Option Nat} (hs : Sl w' 57 6 v' hb' (out.length + 1) (xs ++ TmCells t sv kv)) (hc : Chg h.b.toList (w.alloc c) w') (ho : hb' = h.b ∨ ∃ b, hb' = some b ∧ (w.alloc c).heap.size ≤ b) :
    SAt w0 (w'.setCell ⟨g, 2, none⟩ v') g uv E ws (out ++ [t]) mod bad ⟨hb', F⟩ ∧ Chg (g :: h.b.toList) w (w'.setCell ⟨g, 2, none⟩ v') ∧ (hb' = h.b ∨ ∃ b, hb' = some b ∧ w.heap.size ≤ b) := by
  have n4 := s.ne
  obtain ⟨wv, fv, xs0, pre, hg, hw, hs0, _⟩ := s.rd
  have hnew : ∀ k, hb' = some k → h.b = some k ∨ w.heap.size < k := by
    intro k hk
    rcases ho with h2 | ⟨k2, h2, h3⟩
    · exact .inl (by rw [← h2]; exact hk)
    · rw [h2] at hk
      injection hk with hk
      simp at h3
      exact .inr (by omega)
  have hgl := hg.lt
  have hfar : ∀ b, b < w.heap.size → h.b ≠ some b → hb' ≠ some b := fun b hb hn e => by
    rcases hnew b e with h1 | h1
    · exact hn h1
    · omega
  have hch : Chg (g :: h.b.toList) w (w'.setCell ⟨g, 2, none⟩ v') :=
    (((Chg.refl (g :: h.b.toList) w).alloc c).trans hc fun i hi => .inl (by simp only [List.mem_cons]; exact .inr hi)).set (p := ⟨g, 2, none⟩) (.inl (by simp)) v'
  have hsk : SKeep F w (w'.setCell ⟨g, 2, none⟩ v') := SKeep.of_chg hch s.own
  have hcc : Chg h.b.toList w w' := ((Chg.refl h.b.toList w).alloc c).trans hc fun i hi => .inl hi
  refine ⟨⟨⟨wv, v', _, pre, ?_, hw, ?_, OutAt.snoc (ht.keep hsk) _ _ (OutAt.keep hsk _ _ (OutAt.more hF _ _ hx))⟩, ?_, ?_, s.ok, fun b hb => Nat.lt_of_lt_of_le (hFl b hb) hch.size⟩, hch, ?_⟩
  · have := (hg.chg hcc (by simpa using n4)).set 2 v'
    exact this
  · rw [List.length_append]
    exact hs.far (p := ⟨g, 2, none⟩) (hfar g hgl n4) v'
  · refine s.bel.trans (hch.below s.bel.size fun k hk => ?_)
    simp only [List.mem_cons, Option.mem_toList] at hk
    rcases hk with rfl | hk
    · exact s.lo.1
    · exact s.lo.2 k hk
  · refine ⟨s.lo.1, fun b hb => ?_⟩
    rcases hnew b hb with h1 | h1
    · exact s.lo.2 b h1
    · have := s.bel.size
      omega
  · rcases ho with h2 | ⟨k2, h2, h3⟩
    · exact .inl h2
    · simp at h3
      exact .inr ⟨k2, h2, by omega⟩
end

/-- What a key of the search hands back: its place; where there was no fault, the plain one. -/
def SOut (w0 w : World) (g : Nat) (uv : Value) (E : CEnv) (h : Hn) (bound sz : Nat) (res : Res) (e : Ending) (w' : World) : Prop :=
  ∃ k ws' out' mod' bad' h', e = .returned (.int .i64 k) ∧ SSt w0 w w' g uv E h ws' out' mod' bad' h' ∧ res = (if bad' = true then none else some (k, ws', out', mod')) ∧ out'.length + 3 * szL ws' ≤ bound ∧ szL ws' + (if bad' = true then 0 else 1) ≤ sz

end Go.Proofs.YtnfabgbidkddhaaGreatDoor
