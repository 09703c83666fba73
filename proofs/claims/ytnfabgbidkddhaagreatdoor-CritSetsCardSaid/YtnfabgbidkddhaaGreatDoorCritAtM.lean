/-
  Words, terms and the reader of crit in memory; what a step of the reader keeps.
-/
import Derived.Test.YtnfabgbidkddhaaGreatDoorCritPlainM
namespace Go.Proofs.YtnfabgbidkddhaaGreatDoor
open Go.RowKit

section words
mutual
/-- The value is the slice of a word's words. -/
def WAt (w : World) : WT → Value → Prop
  | .mk _ _ kids, v => ∃ xs, RdS w [] 3 v kids.length xs ∧ CellsAt w kids xs
/-- The cells of words. -/
def CellsAt (w : World) : List WT → List Value → Prop
  | [], xs => xs = []
  | t :: ts, xs => ∃ u rest, xs = .int .i64 t.kind :: .string t.text :: u :: rest ∧ WAt w t u ∧ CellsAt w ts rest
end
/-- The value is a slice of words. -/
def WsAt (w : World) (v : Value) (ws : List WT) : Prop := ∃ xs, RdS w [] 3 v ws.length xs ∧ CellsAt w ws xs

mutual
theorem WAt.below {w w' : World} (hb : Below w.heap.size w w') : ∀ (t : WT) (v : Value), WAt w t v → WAt w' t v
  | .mk _ _ kids, v, h => by
    unfold WAt at h ⊢
    obtain ⟨xs, h1, h2⟩ := h
    exact ⟨xs, h1.below hb, CellsAt.below hb kids xs h2⟩
theorem CellsAt.below {w w' : World} (hb : Below w.heap.size w w') : ∀ (l : List WT) (xs : List Value), CellsAt w l xs → CellsAt w' l xs
  | [], xs, h => by
    unfold CellsAt at h ⊢
    exact h
  | t :: ts, xs, h => by
    unfold CellsAt at h ⊢
    obtain ⟨u, rest, h1, h2, h3⟩ := h
    exact ⟨u, rest, h1, WAt.below hb t u h2, CellsAt.below hb ts rest h3⟩
end
theorem WsAt.below {w w' : World} {v : Value} {ws : List WT} (h : WsAt w v ws) (hb : Below w.heap.size w w') : WsAt w' v ws := by
  obtain ⟨xs, h1, h2⟩ := h
  exact ⟨xs, h1.below hb, CellsAt.below hb ws xs h2⟩
theorem WsAt.form {w : World} {v : Value} {ws : List WT} (h : WsAt w v ws) : ∃ A cap, v = .slice A ws.length cap ∧ ws.length ≤ cap ∧ cap ≤ maxLen := by
  obtain ⟨xs, h1, _⟩ := h
  exact h1.form
theorem WsAt.nil {w : World} {v : Value} (h : RdS w [] 3 v 0 []) : WsAt w v [] := ⟨[], h, by unfold CellsAt; rfl⟩
/-- The first word, and the slice behind it. -/
theorem WsAt.head {w : World} {v : Value} {t : WT} {ws : List WT} (h : WsAt w v (t :: ws)) :
    ∃ b off cap u, v = .slice (some ⟨b, off, none⟩) (ws.length + 1) cap ∧ ws.length + 1 ≤ cap ∧ cap ≤ maxLen ∧ b < w.heap.size ∧
      w.cell? ⟨b, off, none⟩ = some (.int .i64 t.kind) ∧ w.cell? ⟨b, off + 1, none⟩ = some (.string t.text) ∧ w.cell? ⟨b, off + 2, none⟩ = some u ∧
      WsAt w u t.kids ∧ WsAt w (.slice (if cap - 1 = 0 then some ⟨b, off, none⟩ else some ⟨b, off + 3, none⟩) ws.length (cap - 1)) ws := by
  obtain ⟨xs, h1, h2⟩ := h
  unfold CellsAt at h2
  obtain ⟨u, rest, rfl, hu, hr⟩ := h2
  obtain ⟨b, off, cap, hv, hc1, hc2, hlt, _, hat⟩ := h1.at_ (by simp)
  have hl : rest.length = ws.length * 3 := by
    have := h1.1
    simp only [List.length_cons] at this
    omega
  refine ⟨b, off, cap, u, hv, hc1, hc2, hlt, ?_, ?_, ?_, ?_, rest, ?_, hr⟩
  · simpa using hat 0 (by simp only [List.length_cons]; omega)
  · simpa using hat 1 (by simp only [List.length_cons]; omega)
  · simpa using hat 2 (by simp only [List.length_cons]; omega)
  · cases t with
    | mk k tx kids =>
      unfold WAt at hu
      exact hu
  · simp only [List.length_cons] at hc1
    refine ⟨hl, ?_⟩
    by_cases hc : cap - 1 = 0
    · rw [if_pos hc]
      exact .inr ⟨_, _, rfl, by omega, by omega, fun h => by omega⟩
    · rw [if_neg hc]
      refine .inr ⟨_, _, rfl, by omega, by omega, fun _ => ⟨rfl, hlt, by simp, fun j hj => ?_⟩⟩
      have := hat (j + 3) (by simp only [List.length_cons]; omega)
      rw [show off + 3 + j = off + (j + 3) from by omega, this]
      simp
end words

/-- Numbers as cells. -/
def intC (l : List Int) : List Value := l.map (Value.int .i64)
/-- The cells of a term. -/
def TmCells (t : Tm) (sv kv : Value) : List Value := [.int .i64 t.kind, .int .i64 t.n, .string t.name, .string t.text, sv, kv]
/-- Its ranges, its kids: the kids lie in blocks of F. -/
structure TmOk (w : World) (F : Nat → Prop) (t : Tm) (sv kv : Value) : Prop where
  set : ∃ h, Sl w 75 2 sv h t.set.length (flatR t.set)
  kids : ∃ h, Sl w 3 1 kv h t.kids.length (intC t.kids) ∧ ∀ b, h = some b → F b
/-- The cells of terms. -/
def OutAt (w : World) (F : Nat → Prop) : Out → List Value → Prop
  | [], xs => xs = []
  | t :: ts, xs => ∃ sv kv rest, xs = TmCells t sv kv ++ rest ∧ TmOk w F t sv kv ∧ OutAt w F ts rest

/-- Blocks of ranges, and of numbers of F, are as they were. -/
def SKeep (F : Nat → Prop) (w w' : World) : Prop := ∀ b e cs, Blk w b e cs → e = 75 ∨ (e = 3 ∧ F b) → w'.heap[b]? = w.heap[b]?
theorem Sl.skeep {F : Nat → Prop} {w w' : World} {e : TypeId} {size n : Nat} {v : Value} {h : Option Nat} {xs : List Value} (hs : Sl w e size v h n xs) (hk : SKeep F w w') (he : e = 75 ∨ (e = 3 ∧ ∀ b, h = some b → F b)) : Sl w' e size v h n xs := by
  refine ⟨hs.1, ?_⟩
  rcases hs.2 with hn | ⟨b, off, cap, cur, hh, hv, hb, r⟩
  · exact .inl hn
  · exact .inr ⟨b, off, cap, cur, hh, hv, (hk b e cur hb (he.imp id fun x => ⟨x.1, x.2 b hh⟩)).trans hb, r⟩
theorem TmOk.keep {F : Nat → Prop} {w w' : World} {t : Tm} {sv kv : Value} (h : TmOk w F t sv kv) (hk : SKeep F w w') : TmOk w' F t sv kv := by
  obtain ⟨⟨a, h1⟩, ⟨b, h2, h3⟩⟩ := h
  exact ⟨⟨a, h1.skeep hk (.inl rfl)⟩, ⟨b, h2.skeep hk (.inr ⟨rfl, h3⟩), h3⟩⟩
theorem TmOk.more {F F' : Nat → Prop} {w : World} {t : Tm} {sv kv : Value} (h : TmOk w F t sv kv) (hk : ∀ b, F b → F' b) : TmOk w F' t sv kv := by
  obtain ⟨h1, ⟨b, h2, h3⟩⟩ := h
  exact ⟨h1, ⟨b, h2, fun b hb => hk b (h3 b hb)⟩⟩
theorem OutAt.keep {F : Nat → Prop} {w w' : World} (hk : SKeep F w w') : ∀ (l : Out) (xs : List Value), OutAt w F l xs → OutAt w' F l xs
  | [], _, h => h
  | _ :: ts, _, ⟨sv, kv, rest, h1, h2, h3⟩ => ⟨sv, kv, rest, h1, h2.keep hk, OutAt.keep hk ts rest h3⟩
theorem OutAt.more {F F' : Nat → Prop} {w : World} (hk : ∀ b, F b → F' b) : ∀ (l : Out) (xs : List Value), OutAt w F l xs → OutAt w F' l xs
  | [], _, h => h
  | _ :: ts, _, ⟨sv, kv, rest, h1, h2, h3⟩ => ⟨sv, kv, rest, h1, h2.more hk, OutAt.more hk ts rest h3⟩
theorem OutAt.snoc {F : Nat → Prop} {w : World} {t : Tm} {sv kv : Value} (ht : TmOk w F t sv kv) : ∀ (l : Out) (xs : List Value), OutAt w F l xs → OutAt w F (l ++ [t]) (xs ++ TmCells t sv kv)
  | [], xs, h => by
    have : xs = [] := h
    subst this
    exact ⟨sv, kv, [], by simp, ht, rfl⟩
  | _ :: ts, _, ⟨sv', kv', rest, h1, h2, h3⟩ => ⟨sv', kv', rest ++ TmCells t sv kv, by rw [h1, List.append_assoc], h2, OutAt.snoc ht ts rest h3⟩
theorem TmOk.none (F : Nat → Prop) (w : World) (t : Tm) (h1 : t.set = []) (h2 : t.kids = []) : TmOk w F t (.slice none 0 0) (.slice none 0 0) := by
  refine ⟨⟨Option.none, ?_⟩, ⟨Option.none, ?_, by simp⟩⟩
  · rw [h1]
    exact Sl.nil _ _ _
  · rw [h2]
    exact Sl.nil _ _ _

/-- Where the terms lie: their block, and the blocks of their kids. -/
structure Hn where
  b : Option Nat
  f : Nat → Prop

/-- The reader: its block, that of the terms' slice, that of the flag; the words to come, the terms put. -/
structure RAt (w0 w : World) (g ob mb : Nat) (uv : Value) (E : CEnv) (ws : List WT) (out : Out) (mod : Bool) (h : Hn) : Prop where
  rd : ∃ wv, Blk w g 62 #[wv, .int .i64 E.box, uv, .pointer (some ⟨ob, 0, none⟩), .pointer (some ⟨mb, 0, none⟩)] ∧ WsAt w0 wv ws
  ou : ∃ ov xs, Blk w ob 27 #[ov] ∧ Sl w 57 6 ov h.b out.length xs ∧ OutAt w h.f out xs
  mo : Blk w mb 4 #[.bool mod]
  bel : Below w0.heap.size w0 w
  lo : w0.heap.size ≤ g ∧ w0.heap.size ≤ ob ∧ w0.heap.size ≤ mb ∧ ∀ b, h.b = some b → w0.heap.size ≤ b
  ok : okL ws
  fl : ∀ b, h.f b → b < w.heap.size

/-- What a reader is given: numbers, the library's variable. -/
structure EAt (w0 : World) (uv : Value) (E : CEnv) : Prop where
  uids : RdS w0 [] 1 uv E.uids.length (intC E.uids)
  few : E.uids.length ≤ 200
  nums : ∀ u ∈ E.uids, 1 ≤ u ∧ u ≤ 1099511627776
  mx : Mx w0

/-- From one state of the reader to another. -/
structure KSt (w0 w w' : World) (g ob mb : Nat) (uv : Value) (E : CEnv) (h : Hn) (ws' : List WT) (out' : Out) (mod' : Bool) (h' : Hn) : Prop where
  at_ : RAt w0 w' g ob mb uv E ws' out' mod' h'
  chg : Chg (g :: ob :: mb :: h.b.toList) w w'
  new : h'.b = h.b ∨ ∃ b, h'.b = some b ∧ w.heap.size ≤ b
  fnew : ∀ b, h'.f b → h.f b ∨ w.heap.size ≤ b

section
variable {w0 w w' w'' : World} {g ob mb : Nat} {uv : Value} {E : CEnv} {ws ws' : List WT} {out out' : Out} {mod mod' : Bool} {h h' h'' : Hn}

theorem RAt.ne (s : RAt w0 w g ob mb uv E ws out mod h) : g ≠ ob ∧ g ≠ mb ∧ ob ≠ mb ∧ h.b ≠ some g ∧ h.b ≠ some ob ∧ h.b ≠ some mb := by
  obtain ⟨wv, hg, _⟩ := s.rd
  obtain ⟨ov, xs, ho, hs, _⟩ := s.ou
  refine ⟨hg.ne ho (by decide), hg.ne s.mo (by decide), ho.ne s.mo (by decide), fun e => hs.ne_blk hg (by decide) g e rfl, fun e => hs.ne_blk ho (by decide) ob e rfl, fun e => hs.ne_blk s.mo (by decide) mb e rfl⟩
theorem RAt.refl (s : RAt w0 w g ob mb uv E ws out mod h) : KSt w0 w w g ob mb uv E h ws out mod h := ⟨s, Chg.refl _ _, .inl rfl, fun _ h => .inl h⟩
theorem SKeep.of_chg {F : Nat → Prop} {S : List Nat} (hc : Chg S w w') (hs : ∀ k ∈ S, ∃ e cs, Blk w k e cs ∧ e ≠ 75 ∧ e ≠ 3) : SKeep F w w' := by
  intro b e cs hB he
  refine hc.block b hB.lt fun hm => ?_
  obtain ⟨e', cs', hB', h1, h2⟩ := hs b hm
  have := (hB.inj hB').1
  subst this
  rcases he with he | he
  · exact h1 he
  · exact h2 he.1
theorem Sl.blkOf {o : Option Nat} {e : TypeId} {size n : Nat} {v : Value} {xs : List Value} (hs : Sl w e size v o n xs) : ∀ b, o = some b → ∃ cur, Blk w b e cur := by
  intro b hb
  rcases hs.2 with ⟨hn, _⟩ | ⟨b', off, cap, cur, hh, _, hB, _⟩
  · rw [hb] at hn
    cases hn
  · rw [hb] at hh
    obtain rfl := Option.some.inj hh
    exact ⟨cur, hB⟩
theorem RAt.own (s : RAt w0 w g ob mb uv E ws out mod h) : ∀ k ∈ g :: ob :: mb :: h.b.toList, ∃ e cs, Blk w k e cs ∧ e ≠ 75 ∧ e ≠ 3 := by
  obtain ⟨wv, hg, _⟩ := s.rd
  obtain ⟨ov, xs, ho, hs, _⟩ := s.ou
  intro k hk
  simp only [List.mem_cons, Option.mem_toList] at hk
  rcases hk with rfl | rfl | rfl | hk
  · exact ⟨_, _, hg, by decide, by decide⟩
  · exact ⟨_, _, ho, by decide, by decide⟩
  · exact ⟨_, _, s.mo, by decide, by decide⟩
  · obtain ⟨cur, hB⟩ := hs.blkOf k hk
    exact ⟨_, _, hB, by decide, by decide⟩
/-- What was of the caller's own, of another type, is as it was. -/
theorem RAt.apart (s : RAt w0 w g ob mb uv E ws out mod h) {b : Nat} {e : TypeId} {cs : Array Value} (hB : Blk w b e cs) (h1 : e ≠ 62) (h2 : e ≠ 27) (h3 : e ≠ 4) (h4 : e ≠ 57) : b ∉ g :: ob :: mb :: h.b.toList := by
  obtain ⟨wv, hg, _⟩ := s.rd
  obtain ⟨ov, xs, ho, hs, _⟩ := s.ou
  simp only [List.mem_cons, Option.mem_toList, not_or]
  refine ⟨hB.ne hg h1, hB.ne ho h2, hB.ne s.mo h3, fun e2 => ?_⟩
  exact hs.ne_blk hB (fun e3 => h4 e3.symm) b e2 rfl
theorem KSt.other (s : RAt w0 w g ob mb uv E ws out mod h) (k : KSt w0 w w' g ob mb uv E h ws' out' mod' h') {b : Nat} {e : TypeId} {cs : Array Value} (hB : Blk w b e cs) (h1 : e ≠ 62) (h2 : e ≠ 27) (h3 : e ≠ 4) (h4 : e ≠ 57) : Blk w' b e cs :=
  hB.chg k.chg (s.apart hB h1 h2 h3 h4)
theorem KSt.ints (s : RAt w0 w g ob mb uv E ws out mod h) (k : KSt w0 w w' g ob mb uv E h ws' out' mod' h') {o : Option Nat} {n : Nat} {v : Value} {xs : List Value} (hs : Sl w 3 1 v o n xs) : Sl w' 3 1 v o n xs :=
  hs.chg k.chg fun b hb => by
    obtain ⟨cur, hB⟩ := hs.blkOf b hb
    exact s.apart hB (by decide) (by decide) (by decide) (by decide)
theorem KSt.trans (k : KSt w0 w w' g ob mb uv E h ws out mod h') (k' : KSt w0 w' w'' g ob mb uv E h' ws' out' mod' h'') : KSt w0 w w'' g ob mb uv E h ws' out' mod' h'' := by
  refine ⟨k'.at_, k.chg.trans k'.chg fun i hi => ?_, ?_, fun b hb => ?_⟩
  · simp only [List.mem_cons, Option.mem_toList] at hi ⊢
    rcases hi with hi | hi | hi | hi
    · exact .inl (.inl hi)
    · exact .inl (.inr (.inl hi))
    · exact .inl (.inr (.inr (.inl hi)))
    · rcases k.new with h1 | ⟨b, h1, h2⟩
      · exact .inl (.inr (.inr (.inr (by rw [← h1]; exact hi))))
      · rw [h1] at hi
        injection hi with hi
        exact .inr (by omega)
  · rcases k'.new with h1 | ⟨b, h1, h2⟩
    · rw [h1]
      exact k.new
    · exact .inr ⟨b, h1, Nat.le_trans k.chg.size h2⟩
  · rcases k'.fnew b hb with h1 | h1
    · exact k.fnew b h1
    · exact .inr (Nat.le_trans k.chg.size h1)
/-- What was there is as it was. -/
theorem RAt.below (s : RAt w0 w g ob mb uv E ws out mod h) (hb : Below w.heap.size w w') : RAt w0 w' g ob mb uv E ws out mod h := by
  obtain ⟨wv, hg, hw⟩ := s.rd
  obtain ⟨ov, xs, ho, hs, hx⟩ := s.ou
  exact ⟨⟨wv, hg.below hb hg.lt, hw⟩, ⟨ov, xs, ho.below hb ho.lt, hs.chg (Chg.of_below hb []) (by simp), OutAt.keep (fun b e cs hB _ => hb.block b hB.lt) _ _ hx⟩, s.mo.below hb s.mo.lt, s.bel.trans (hb.mono s.bel.size), s.lo, s.ok, fun b hf => Nat.lt_of_lt_of_le (s.fl b hf) hb.size⟩
theorem RAt.still (s : RAt w0 w g ob mb uv E ws out mod h) (hb : Below w.heap.size w w') : KSt w0 w w' g ob mb uv E h ws out mod h := ⟨s.below hb, Chg.of_below hb _, .inl rfl, fun _ h => .inl h⟩
theorem KSt.below (k : KSt w0 w w' g ob mb uv E h ws out mod h') (hb : Below w'.heap.size w' w'') : KSt w0 w w'' g ob mb uv E h ws out mod h' := k.trans (k.at_.still hb)
/-- ahead of it. -/
theorem KSt.after (k : KSt w0 w' w'' g ob mb uv E h ws out mod h') (hb : Below w.heap.size w w') : KSt w0 w w'' g ob mb uv E h ws out mod h' :=
  ⟨k.at_, (Chg.of_below hb (g :: ob :: mb :: h.b.toList)).trans k.chg fun i hi => .inl hi, by
    rcases k.new with h1 | ⟨b, h1, h2⟩
    · exact .inl h1
    · exact .inr ⟨b, h1, Nat.le_trans hb.size h2⟩, fun b hf => (k.fnew b hf).imp id fun h => Nat.le_trans hb.size h⟩
/-- A term has been put behind the others: its kids lie in blocks of F. -/
structure PutSt (w0 w w' : World) (g ob mb : Nat) (uv : Value) (E : CEnv) (h : Hn) (ws' : List WT) (out' : Out) (mod' : Bool) (hb : Option Nat) (F : Nat → Prop) : Prop where
  at_ : RAt w0 w' g ob mb uv E ws' out' mod' ⟨hb, F⟩
  chg : Chg (g :: ob :: mb :: h.b.toList) w w'
  new : hb = h.b ∨ ∃ b, hb = some b ∧ w.heap.size ≤ b
theorem PutSt.after {F : Nat → Prop} {hb : Option Nat} (k : PutSt w0 w' w'' g ob mb uv E h ws out mod hb F) (hbl : Below w.heap.size w w') : PutSt w0 w w'' g ob mb uv E h ws out mod hb F :=
  ⟨k.at_, (Chg.of_below hbl (g :: ob :: mb :: h.b.toList)).trans k.chg fun i hi => .inl hi, by
    rcases k.new with h1 | ⟨b, h1, h2⟩
    · exact .inl h1
    · exact .inr ⟨b, h1, Nat.le_trans hbl.size h2⟩⟩
theorem KSt.putting {F : Nat → Prop} {hb : Option Nat} (k : KSt w0 w w' g ob mb uv E h ws out mod h') (p : PutSt w0 w' w'' g ob mb uv E h' ws' out' mod' hb F) (hF : ∀ b, F b → h'.f b ∨ w.heap.size ≤ b) : KSt w0 w w'' g ob mb uv E h ws' out' mod' ⟨hb, F⟩ := by
  refine ⟨p.at_, k.chg.trans p.chg fun i hi => ?_, ?_, fun b hb => ?_⟩
  · simp only [List.mem_cons, Option.mem_toList] at hi ⊢
    rcases hi with hi | hi | hi | hi
    · exact .inl (.inl hi)
    · exact .inl (.inr (.inl hi))
    · exact .inl (.inr (.inr (.inl hi)))
    · rcases k.new with h1 | ⟨b, h1, h2⟩
      · exact .inl (.inr (.inr (.inr (by rw [← h1]; exact hi))))
      · rw [h1] at hi
        injection hi with hi
        exact .inr (by omega)
  · rcases p.new with h1 | ⟨b, h1, h2⟩
    · show hb = h.b ∨ ∃ b, hb = some b ∧ w.heap.size ≤ b
      rw [h1]
      exact k.new
    · exact .inr ⟨b, h1, Nat.le_trans k.chg.size h2⟩
  · rcases hF b hb with h1 | h1
    · exact k.fnew b h1
    · exact .inr h1
/-- A term behind the others. -/
theorem RAt.push (s : RAt w0 w g ob mb uv E ws out mod h) {F : Nat → Prop} (hF : ∀ b, h.f b → F b) (hFl : ∀ b, F b → b < w.heap.size) {t : Tm} {sv kv : Value} (ht : TmOk w F t sv kv) {xs : List Value} (hx : OutAt w h.f out xs) (c : Obj)
    {v' : Value} {hb' : Option Nat} (hs : Sl w' 57 6 v' hb' (out.length + 1) (xs ++ TmCells t sv kv)) (hc : Chg h.b.toList (w.alloc c) w') (ho : hb' = h.b ∨ ∃ b, hb' = some b ∧ (w.alloc c).heap.size ≤ b) :
    PutSt w0 w (w'.setCell ⟨ob, 0, none⟩ v') g ob mb uv E h ws (out ++ [t]) mod hb' F := by
  obtain ⟨n1, n2, n3, n4, n5, n6⟩ := s.ne
  obtain ⟨wv, hg, hw⟩ := s.rd
  obtain ⟨ov0, xs0, hob, hs0, _⟩ := s.ou
  have hnew : ∀ k, hb' = some k → h.b = some k ∨ w.heap.size < k := by
    intro k hk
    rcases ho with h2 | ⟨k2, h2, h3⟩
    · exact .inl (by rw [← h2]; exact hk)
    · rw [h2] at hk
      injection hk with hk
      simp at h3
      exact .inr (by omega)
  have hgl := hg.lt
  have hol := hob.lt
  have hml := s.mo.lt
  have hfar : ∀ b, b < w.heap.size → h.b ≠ some b → hb' ≠ some b := fun b hb hn e => by
    rcases hnew b e with h1 | h1
    · exact hn h1
    · omega
  have hch : Chg (g :: ob :: mb :: h.b.toList) w (w'.setCell ⟨ob, 0, none⟩ v') :=
    (((Chg.refl (g :: ob :: mb :: h.b.toList) w).alloc c).trans hc fun i hi => .inl (by simp only [List.mem_cons]; exact .inr (.inr (.inr hi)))).set (p := ⟨ob, 0, none⟩) (.inl (by simp)) v'
  have hsk : SKeep F w (w'.setCell ⟨ob, 0, none⟩ v') := SKeep.of_chg hch s.own
  have e1 := (Chg.refl h.b.toList w).alloc c
  have hcc : Chg h.b.toList w w' := e1.trans hc fun i hi => .inl hi
  refine ⟨⟨⟨wv, ?_, hw⟩, ⟨v', _, ?_, ?_, OutAt.snoc (ht.keep hsk) _ _ (OutAt.keep hsk _ _ (OutAt.more hF _ _ hx))⟩, ?_, ?_, ?_, s.ok, fun b hb => Nat.lt_of_lt_of_le (hFl b hb) hch.size⟩, hch, ?_⟩
  · exact (hg.chg hcc (by simpa using n4)).far n1 v'
  · have := (hob.chg hcc (by simpa using n5)).set 0 v'
    exact this
  · rw [List.length_append]
    exact hs.far (p := ⟨ob, 0, none⟩) (hfar ob hol n5) v'
  · exact (s.mo.chg hcc (by simpa using n6)).far (fun e => n3 e.symm) v'
  · refine s.bel.trans (hch.below s.bel.size fun k hk => ?_)
    simp only [List.mem_cons, Option.mem_toList] at hk
    obtain ⟨l1, l2, l3, l4⟩ := s.lo
    rcases hk with rfl | rfl | rfl | hk
    · exact l1
    · exact l2
    · exact l3
    · exact l4 k hk
  · obtain ⟨l1, l2, l3, l4⟩ := s.lo
    refine ⟨l1, l2, l3, fun b hb => ?_⟩
    rcases hnew b hb with h1 | h1
    · exact l4 b h1
    · have := s.bel.size
      omega
  · rcases ho with h2 | ⟨k2, h2, h3⟩
    · exact .inl h2
    · simp at h3
      exact .inr ⟨k2, h2, by omega⟩
/-- A word taken. -/
theorem RAt.take (s : RAt w0 w g ob mb uv E ws out mod h) {wv' : Value} (hw : WsAt w0 wv' ws') (hok : okL ws') : KSt w0 w (w.setCell ⟨g, 0, none⟩ wv') g ob mb uv E h ws' out mod h := by
  obtain ⟨n1, n2, n3, n4, n5, n6⟩ := s.ne
  obtain ⟨wv, hg, _⟩ := s.rd
  obtain ⟨ov0, xs0, hob, hs0, hx⟩ := s.ou
  have hch : Chg (g :: ob :: mb :: h.b.toList) w (w.setCell ⟨g, 0, none⟩ wv') := (Chg.refl _ w).set (p := ⟨g, 0, none⟩) (.inl (by simp)) wv'
  refine ⟨⟨⟨wv', by have := hg.set 0 wv'; exact this, hw⟩, ⟨ov0, xs0, hob.far (fun e => n1 e.symm) _, hs0.far (p := ⟨g, 0, none⟩) n4 _, OutAt.keep (SKeep.of_chg hch s.own) _ _ hx⟩, s.mo.far (fun e => n2 e.symm) _, ?_, s.lo, hok, fun b hb => Nat.lt_of_lt_of_le (s.fl b hb) hch.size⟩, hch, .inl rfl, fun _ h => .inl h⟩
  refine s.bel.trans (hch.below s.bel.size fun k hk => ?_)
  simp only [List.mem_cons, Option.mem_toList] at hk
  obtain ⟨l1, l2, l3, l4⟩ := s.lo
  rcases hk with rfl | rfl | rfl | hk
  · exact l1
  · exact l2
  · exact l3
  · exact l4 k hk
/-- The flag up. -/
theorem RAt.flag (s : RAt w0 w g ob mb uv E ws out mod h) : KSt w0 w (w.setCell ⟨mb, 0, none⟩ (.bool true)) g ob mb uv E h ws out true h := by
  obtain ⟨n1, n2, n3, n4, n5, n6⟩ := s.ne
  obtain ⟨wv, hg, hw⟩ := s.rd
  obtain ⟨ov0, xs0, hob, hs0, hx⟩ := s.ou
  have hch : Chg (g :: ob :: mb :: h.b.toList) w (w.setCell ⟨mb, 0, none⟩ (.bool true)) := (Chg.refl _ w).set (p := ⟨mb, 0, none⟩) (.inl (by simp)) _
  refine ⟨⟨⟨wv, hg.far n2 _, hw⟩, ⟨ov0, xs0, hob.far n3 _, hs0.far (p := ⟨mb, 0, none⟩) n6 _, OutAt.keep (SKeep.of_chg hch s.own) _ _ hx⟩, by have := s.mo.set 0 (.bool true); exact this, ?_, s.lo, s.ok, fun b hb => Nat.lt_of_lt_of_le (s.fl b hb) hch.size⟩, hch, .inl rfl, fun _ h => .inl h⟩
  refine s.bel.trans (hch.below s.bel.size fun k hk => ?_)
  simp only [List.mem_cons, Option.mem_toList] at hk
  obtain ⟨l1, l2, l3, l4⟩ := s.lo
  rcases hk with rfl | rfl | rfl | hk
  · exact l1
  · exact l2
  · exact l3
  · exact l4 k hk
end

/-- What a key hands back: its place and whether it is one; the state behind it is the plain one where it is. -/
def KOut (w0 w : World) (g ob mb : Nat) (uv : Value) (E : CEnv) (h : Hn) (bound sz : Nat) (res : Res) (e : Ending) (w' : World) : Prop :=
  ∃ k ok ws' out' mod' h', e = .returned (.tuple #[.int .i64 k, .bool ok]) ∧ KSt w0 w w' g ob mb uv E h ws' out' mod' h' ∧ res = (if ok = true then some (k, ws', out', mod') else none) ∧ out'.length + 3 * szL ws' ≤ bound ∧ szL ws' + (if ok = true then 1 else 0) ≤ sz

end Go.Proofs.YtnfabgbidkddhaaGreatDoor
