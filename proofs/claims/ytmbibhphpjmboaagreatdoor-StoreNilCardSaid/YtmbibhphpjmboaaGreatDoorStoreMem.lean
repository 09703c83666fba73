/-
  What single steps do to an account in memory: a cell of its struct, of a mailbox, of an email; a mailbox, an email more; the log.
-/
import Derived.Test.YtmbibhphpjmboaaGreatDoorStoreAt
namespace Go.Proofs.YtmbibhphpjmboaaGreatDoor
open Go.RowKit

section
variable {w w' : World} {g : Nat} {q q' : Lies} {x x' : Acc}

theorem Sl.ne_sl {e e' : TypeId} {size size' n n' : Nat} {v v' : Value} {h h' : Option Nat} {xs xs' : List Value} (hs : Sl w e size v h n xs) (hs' : Sl w e' size' v' h' n' xs') (hne : e ≠ e') : ∀ b, h = some b → h' ≠ some b := by
  intro b hb hb'
  rcases hs'.2 with ⟨hn, _⟩ | ⟨b', off, cap, cur, hh', _, hB, _⟩
  · rw [hb'] at hn
    cases hn
  · rw [hb'] at hh'
    obtain rfl := Option.some.inj hh'
    exact hs.ne_blk hB hne b hb rfl

/-- No two of its blocks are one. -/
structure Apart (g : Nat) (q : Lies) : Prop where
  gl : g ≠ q.gl
  hl : q.hl ≠ some g
  hb : q.hb ≠ some g
  hm : q.hm ≠ some g
  lb : q.hb ≠ some q.gl
  lm : q.hm ≠ some q.gl
  ll : q.hl ≠ some q.gl
  eb : ∀ b, q.hl = some b → q.hb ≠ some b
  em : ∀ b, q.hl = some b → q.hm ≠ some b
  bm : ∀ b, q.hb = some b → q.hm ≠ some b
theorem StoreAt.apart (h : StoreAt w g q x) : Apart g q := by
  obtain ⟨v, hl1, hl2⟩ := h.log
  exact ⟨h.blk.ne hl1 (by decide), fun e => hl2.ne_blk h.blk (by decide) g e rfl, fun e => h.boxes.ne_blk h.blk (by decide) g e rfl, fun e => h.mails.ne_blk h.blk (by decide) g e rfl, fun e => h.boxes.ne_blk hl1 (by decide) _ e rfl, fun e => h.mails.ne_blk hl1 (by decide) _ e rfl,
    fun e => hl2.ne_blk hl1 (by decide) _ e rfl, hl2.ne_sl h.boxes (by decide), hl2.ne_sl h.mails (by decide), h.boxes.ne_sl h.mails (by decide)⟩
theorem PartAt.step {m : MailM} (h : PartAt w (q.own g) m) (hc : Chg (q.own g) w w') (ho : ∀ k ∈ q'.own g, k ∈ q.own g ∨ w.heap.size ≤ k) : PartAt w' (q'.own g) m :=
  h.keep hc.size hc.block fun b hb hn hm => by
    rcases ho b hm with h1 | h1
    · exact hn h1
    · omega

/-- A cell of the struct stored. -/
theorem StoreAt.setStruct (h : StoreAt w g q x) (j : Nat) (u : Value) (x' : Acc) (hcells : cellsS q x' = (cellsS q x).set j u) (hb : x'.boxes = x.boxes) (hm : x'.mails = x.mails) (hl : x'.log = x.log) : Turned w (w.setCell ⟨g, j, none⟩ u) g q x' q := by
  have ha := h.apart
  have hc : Chg [g] w (w.setCell ⟨g, j, none⟩ u) := (Chg.refl [g] w).set (.inl (by simp)) u
  have hco : Chg (q.own g) w (w.setCell ⟨g, j, none⟩ u) := hc.mono fun k hk => by
    simp only [List.mem_singleton] at hk
    subst hk
    exact .inl Lies.own_g
  refine ⟨⟨?_, ?_, ?_, ?_, ?_, fun m hmm => (h.parts m hmm).step hco (fun k hk => .inl hk)⟩, hco, fun k hk => .inl hk⟩
  · have := h.blk.set j u
    rw [show (cellsS q x').toArray = (cellsS q x).toArray.setIfInBounds j u from by rw [hcells]; simp]
    exact this
  · rw [hl]
    exact h.log.chg hc (by simpa using fun e => ha.gl e.symm) (fun b hb => by
      simp only [List.mem_singleton]
      rintro rfl
      exact ha.hl hb)
  · rw [hb]
    exact h.boxes.far (p := ⟨g, j, none⟩) ha.hb u
  · rw [hm]
    exact h.same
  · rw [hm]
    exact h.mails.far (p := ⟨g, j, none⟩) ha.hm u

/-- A cell of a mailbox stored. -/
theorem StoreAt.setBoxCell (h : StoreAt w g q x) {b off n cap : Nat} (hv : q.vb = .slice (some ⟨b, off, none⟩) n cap) (i : Nat) (hi : i < x.boxes.length) (j : Nat) (hj : j < 6) (u : Value) (y : BoxP) (hy : encB y = (encB x.boxes[i]).set j u) :
    Turned w (w.setCell ⟨b, off + i * 6 + j, none⟩ u) g q { x with boxes := x.boxes.set i y } q := by
  have ha := h.apart
  have hsb := h.boxes
  rw [hv] at hsb
  have hn : n = x.boxes.length := by
    obtain ⟨A, c, hv2, _⟩ := hsb.form
    injection hv2
  subst hn
  have hbb : q.hb = some b := by
    obtain ⟨b', off', cap', hh, hv2, _⟩ := hsb.at_ (by omega)
    injection hv2 with e1
    injection e1 with e2
    injection e2 with e3
    rw [hh, e3]
  have hgb : g ≠ b := fun e => ha.hb (by rw [hbb, e])
  have hc : Chg [b] w (w.setCell ⟨b, off + i * 6 + j, none⟩ u) := (Chg.refl [b] w).set (.inl (by simp)) u
  have hco : Chg (q.own g) w (w.setCell ⟨b, off + i * 6 + j, none⟩ u) := hc.mono fun k hk => by
    simp only [List.mem_singleton] at hk
    subst hk
    exact .inl (Lies.own_hb hbb)
  refine ⟨⟨h.blk.far (p := ⟨b, off + i * 6 + j, none⟩) hgb u, ?_, ?_, h.same, ?_, fun m hmm => (h.parts m hmm).step hco (fun k hk => .inl hk)⟩, hco, fun k hk => .inl hk⟩
  · exact h.log.chg hc (by simp only [List.mem_singleton]; rintro e; exact ha.lb (by rw [hbb, e])) (fun k hk => by
      simp only [List.mem_singleton]
      rintro rfl
      exact ha.eb _ hk hbb)
  · have h1 := hsb.store (i * 6 + j) u
    rw [flatG_set encB_length x.boxes i j hi hj u y hy] at h1
    rw [hv]
    show Sl _ _ 6 _ q.hb (x.boxes.set i y).length (flatG encB (x.boxes.set i y))
    rw [List.length_set]
    rw [← Nat.add_assoc] at h1
    exact h1
  · exact h.mails.far (p := ⟨b, off + i * 6 + j, none⟩) (fun e => ha.bm b hbb e) u

/-- The log turned. -/
theorem StoreAt.setLog (h : StoreAt w g q x) {l : LogV} {hl' : Option Nat} (hl : LogAt w' q.gl hl' l) (hc : Chg (q.gl :: q.hl.toList) w w') (ho : hl' = q.hl ∨ ∃ k, hl' = some k ∧ w.heap.size ≤ k) : Turned w w' g q { x with log := l } { q with hl := hl' } := by
  have ha := h.apart
  have hco : Chg (q.own g) w w' := hc.mono fun k hk => by
    rcases List.mem_cons.1 hk with rfl | hk
    · exact .inl Lies.own_gl
    · exact .inl (Lies.own_hl (by simpa using hk))
  have hown : ∀ k ∈ ({ q with hl := hl' } : Lies).own g, k ∈ q.own g ∨ w.heap.size ≤ k := by
    intro k hk
    simp only [Lies.own, List.mem_cons, List.mem_append, Option.mem_toList] at hk ⊢
    rcases hk with h1 | h1 | (h1 | h1) | h1
    · exact .inl (.inl h1)
    · exact .inl (.inr (.inl h1))
    · rcases ho with h2 | ⟨k2, h2, h3⟩
      · rw [h2] at h1
        exact .inl (.inr (.inr (.inl (.inl h1))))
      · rw [h2] at h1
        injection h1 with h1
        exact .inr (by omega)
    · exact .inl (.inr (.inr (.inl (.inr h1))))
    · exact .inl (.inr (.inr (.inr h1)))
  refine ⟨⟨?_, hl, ?_, h.same, ?_, fun m hmm => (h.parts m hmm).step hco hown⟩, hco, hown⟩
  · exact h.blk.chg hc (by
      simp only [List.mem_cons, Option.mem_toList, not_or]
      exact ⟨ha.gl, ha.hl⟩)
  · exact h.boxes.chg hc (fun b hb => by
      simp only [List.mem_cons, Option.mem_toList, not_or]
      exact ⟨fun e => ha.lb (by rw [hb, e]), fun e => ha.eb b e hb⟩)
  · exact h.mails.chg hc (fun b hb => by
      simp only [List.mem_cons, Option.mem_toList, not_or]
      exact ⟨fun e => ha.lm (by rw [hb, e]), fun e => ha.em b e hb⟩)

/-- A mailbox more: the slice that an append handed back is stored. -/
theorem StoreAt.pushBox (h : StoreAt w g q x) (y : BoxP) {v' : Value} {h' : Option Nat} (hs : Sl w' 52 6 v' h' (x.boxes.length + 1) (flatG encB x.boxes ++ encB y)) (hc : Chg q.hb.toList w w') (ho : h' = q.hb ∨ ∃ k, h' = some k ∧ w.heap.size ≤ k) :
    Turned w (w'.setCell ⟨g, 10, none⟩ v') g q { x with boxes := x.boxes ++ [y] } { q with hb := h', vb := v' } := by
  have ha := h.apart
  have hgl : g < w.heap.size := h.blk.lt
  have hnew : ∀ k, h' = some k → (q.hb = some k) ∨ w.heap.size ≤ k := by
    intro k hk
    rcases ho with h2 | ⟨k2, h2, h3⟩
    · exact .inl (by rw [← h2]; exact hk)
    · rw [h2] at hk
      injection hk with hk
      exact .inr (by omega)
  have hgh : h' ≠ some g := fun e => by
    rcases hnew g e with h1 | h1
    · exact ha.hb h1
    · omega
  have hco : Chg (q.own g) w (w'.setCell ⟨g, 10, none⟩ v') := (hc.mono fun k hk => .inl (Lies.own_hb (by simpa using hk))).set (p := ⟨g, 10, none⟩) (.inl Lies.own_g) v'
  have hown : ∀ k ∈ ({ q with hb := h', vb := v' } : Lies).own g, k ∈ q.own g ∨ w.heap.size ≤ k := by
    intro k hk
    simp only [Lies.own, List.mem_cons, List.mem_append, Option.mem_toList] at hk ⊢
    rcases hk with h1 | h1 | (h1 | h1) | h1
    · exact .inl (.inl h1)
    · exact .inl (.inr (.inl h1))
    · exact .inl (.inr (.inr (.inl (.inl h1))))
    · rcases hnew k h1 with h2 | h2
      · exact .inl (.inr (.inr (.inl (.inr h2))))
      · exact .inr h2
    · exact .inl (.inr (.inr (.inr h1)))
  have hc2 : Chg (g :: q.hb.toList) w (w'.setCell ⟨g, 10, none⟩ v') := (hc.mono fun k hk => .inl (List.mem_cons_of_mem _ hk)).set (.inl (by simp)) v'
  refine ⟨⟨?_, ?_, ?_, h.same, ?_, fun m hmm => (h.parts m hmm).step hco hown⟩, hco, hown⟩
  · have hB := (h.blk.chg hc (by simpa using ha.hb)).set 10 v'
    exact hB
  · exact h.log.chg hc2 (by
      simp only [List.mem_cons, Option.mem_toList, not_or]
      exact ⟨fun e => ha.gl e.symm, ha.lb⟩) (fun b hb => by
      simp only [List.mem_cons, Option.mem_toList, not_or]
      exact ⟨fun e => ha.hl (by rw [hb, e]), ha.eb b hb⟩)
  · have h1 := hs.far (p := ⟨g, 10, none⟩) hgh v'
    show Sl _ _ 6 v' h' (x.boxes ++ [y]).length (flatG encB (x.boxes ++ [y]))
    rw [List.length_append, List.length_singleton, flatG_snoc]
    exact h1
  · exact h.mails.chg hc2 (fun b hb => by
      simp only [List.mem_cons, Option.mem_toList, not_or]
      exact ⟨fun e => ha.hm (by rw [hb, e]), fun e => ha.bm b e hb⟩)

/-- An email more. -/
theorem StoreAt.pushMail (h : StoreAt w g q x) (m : MailM) {v' : Value} {h' : Option Nat} (hp : PartAt w (q.own g) m) (hs : Sl w' 40 8 v' h' (x.mails.length + 1) (flatG encM q.ms ++ encM m)) (hc : Chg q.hm.toList w w') (ho : h' = q.hm ∨ ∃ k, h' = some k ∧ w.heap.size ≤ k) :
    Turned w (w'.setCell ⟨g, 11, none⟩ v') g q { x with mails := x.mails ++ [m.p] } { q with hm := h', vm := v', ms := q.ms ++ [m] } := by
  have ha := h.apart
  have hgl : g < w.heap.size := h.blk.lt
  have hnew : ∀ k, h' = some k → (q.hm = some k) ∨ w.heap.size ≤ k := by
    intro k hk
    rcases ho with h2 | ⟨k2, h2, h3⟩
    · exact .inl (by rw [← h2]; exact hk)
    · rw [h2] at hk
      injection hk with hk
      exact .inr (by omega)
  have hgh : h' ≠ some g := fun e => by
    rcases hnew g e with h1 | h1
    · exact ha.hm h1
    · omega
  have hco : Chg (q.own g) w (w'.setCell ⟨g, 11, none⟩ v') := (hc.mono fun k hk => .inl (Lies.own_hm (by simpa using hk))).set (p := ⟨g, 11, none⟩) (.inl Lies.own_g) v'
  have hown : ∀ k ∈ ({ q with hm := h', vm := v', ms := q.ms ++ [m] } : Lies).own g, k ∈ q.own g ∨ w.heap.size ≤ k := by
    intro k hk
    simp only [Lies.own, List.mem_cons, List.mem_append, Option.mem_toList] at hk ⊢
    rcases hk with h1 | h1 | (h1 | h1) | h1
    · exact .inl (.inl h1)
    · exact .inl (.inr (.inl h1))
    · exact .inl (.inr (.inr (.inl (.inl h1))))
    · exact .inl (.inr (.inr (.inl (.inr h1))))
    · rcases hnew k h1 with h2 | h2
      · exact .inl (.inr (.inr (.inr h2)))
      · exact .inr h2
  have hc2 : Chg (g :: q.hm.toList) w (w'.setCell ⟨g, 11, none⟩ v') := (hc.mono fun k hk => .inl (List.mem_cons_of_mem _ hk)).set (.inl (by simp)) v'
  refine ⟨⟨?_, ?_, ?_, ?_, ?_, fun a ha2 => ?_⟩, hco, hown⟩
  · have hB := (h.blk.chg hc (by simpa using ha.hm)).set 11 v'
    exact hB
  · exact h.log.chg hc2 (by
      simp only [List.mem_cons, Option.mem_toList, not_or]
      exact ⟨fun e => ha.gl e.symm, ha.lm⟩) (fun b hb => by
      simp only [List.mem_cons, Option.mem_toList, not_or]
      exact ⟨fun e => ha.hl (by rw [hb, e]), ha.em b hb⟩)
  · exact h.boxes.chg hc2 (fun b hb => by
      simp only [List.mem_cons, Option.mem_toList, not_or]
      exact ⟨fun e => ha.hb (by rw [hb, e]), ha.bm b hb⟩)
  · show (q.ms ++ [m]).map (·.p) = x.mails ++ [m.p]
    rw [List.map_append, h.same]
    rfl
  · have h1 := hs.far (p := ⟨g, 11, none⟩) hgh v'
    show Sl _ _ 8 v' h' (x.mails ++ [m.p]).length (flatG encM (q.ms ++ [m]))
    rw [List.length_append, List.length_singleton, flatG_snoc]
    exact h1
  · rcases List.mem_append.1 ha2 with h1 | h1
    · exact (h.parts a h1).step hco hown
    · rw [List.mem_singleton] at h1
      subst h1
      exact hp.step hco hown

/-- Where there is a mailbox: its cells. -/
theorem StoreAt.boxAt (h : StoreAt w g q x) (i : Nat) (hi : i < x.boxes.length) : ∃ b off cap, q.vb = .slice (some ⟨b, off, none⟩) x.boxes.length cap ∧ q.hb = some b ∧ x.boxes.length ≤ cap ∧ cap ≤ maxLen ∧ b < w.heap.size ∧
    ∀ j, j < 6 → w.cell? ⟨b, off + i * 6 + j, none⟩ = (encB x.boxes[i])[j]? ∧ w.frozen? ⟨b, off + i * 6 + j, none⟩ = false := by
  obtain ⟨b, off, cap, hh, hv, h1, h2, h3, hat⟩ := h.boxes.at_ (by omega)
  refine ⟨b, off, cap, hv, hh, h1, h2, h3, fun j hj => ?_⟩
  have hlt : i * 6 + j < x.boxes.length * 6 := by omega
  obtain ⟨c1, c2⟩ := hat (i * 6 + j) hlt
  rw [← Nat.add_assoc] at c1 c2
  exact ⟨c1.trans (flatG_get encB_length x.boxes i j hi hj), c2⟩
theorem StoreAt.msLen (h : StoreAt w g q x) : q.ms.length = x.mails.length := by
  rw [← h.same, List.length_map]
theorem StoreAt.msAt (h : StoreAt w g q x) (i : Nat) (hi : i < x.mails.length) (hi2 : i < q.ms.length) : q.ms[i].p = x.mails[i] := by
  have h1 := h.same
  have h2 : (q.ms.map (·.p))[i]? = x.mails[i]? := by rw [h1]
  rw [List.getElem?_map, List.getElem?_eq_getElem hi2, List.getElem?_eq_getElem hi] at h2
  exact Option.some.inj h2
/-- Where there is an email: its cells. -/
theorem StoreAt.mailAt (h : StoreAt w g q x) (i : Nat) (hi : i < x.mails.length) (hi2 : i < q.ms.length) : ∃ b off cap, q.vm = .slice (some ⟨b, off, none⟩) x.mails.length cap ∧ q.hm = some b ∧ x.mails.length ≤ cap ∧ cap ≤ maxLen ∧ b < w.heap.size ∧
    ∀ j, j < 8 → w.cell? ⟨b, off + i * 8 + j, none⟩ = (encM q.ms[i])[j]? ∧ w.frozen? ⟨b, off + i * 8 + j, none⟩ = false := by
  obtain ⟨b, off, cap, hh, hv, h1, h2, h3, hat⟩ := h.mails.at_ (by omega)
  refine ⟨b, off, cap, hv, hh, h1, h2, h3, fun j hj => ?_⟩
  have hlt : i * 8 + j < x.mails.length * 8 := by omega
  obtain ⟨c1, c2⟩ := hat (i * 8 + j) hlt
  rw [← Nat.add_assoc] at c1 c2
  exact ⟨c1.trans (flatG_get encM_length q.ms i j hi2 hj), c2⟩
/-- A cell of an email stored. -/
theorem StoreAt.setMailCell (h : StoreAt w g q x) {b off n cap : Nat} (hv : q.vm = .slice (some ⟨b, off, none⟩) n cap) (i : Nat) (hi : i < x.mails.length) (hi2 : i < q.ms.length) (j : Nat) (hj : j < 8) (u : Value) (m : MailM) (hm : encM m = (encM q.ms[i]).set j u) (hp : PartAt w (q.own g) m) :
    Turned w (w.setCell ⟨b, off + i * 8 + j, none⟩ u) g q { x with mails := x.mails.set i m.p } { q with ms := q.ms.set i m } := by
  have ha := h.apart
  have hsb := h.mails
  rw [hv] at hsb
  have hn : n = x.mails.length := by
    obtain ⟨A, c, hv2, _⟩ := hsb.form
    injection hv2
  subst hn
  have hbb : q.hm = some b := by
    obtain ⟨b', off', cap', hh, hv2, _⟩ := hsb.at_ (by omega)
    injection hv2 with e1
    injection e1 with e2
    injection e2 with e3
    rw [hh, e3]
  have hgb : g ≠ b := fun e => ha.hm (by rw [hbb, e])
  have hc : Chg [b] w (w.setCell ⟨b, off + i * 8 + j, none⟩ u) := (Chg.refl [b] w).set (.inl (by simp)) u
  have hco : Chg (q.own g) w (w.setCell ⟨b, off + i * 8 + j, none⟩ u) := hc.mono fun k hk => by
    simp only [List.mem_singleton] at hk
    subst hk
    exact .inl (Lies.own_hm hbb)
  have hown : ∀ k ∈ ({ q with ms := q.ms.set i m } : Lies).own g, k ∈ q.own g ∨ w.heap.size ≤ k := fun k hk => .inl hk
  refine ⟨⟨h.blk.far (p := ⟨b, off + i * 8 + j, none⟩) hgb u, ?_, ?_, ?_, ?_, fun a ha2 => ?_⟩, hco, hown⟩
  · exact h.log.chg hc (by simp only [List.mem_singleton]; rintro e; exact ha.lm (by rw [hbb, e])) (fun k hk => by
      simp only [List.mem_singleton]
      rintro rfl
      exact ha.em _ hk hbb)
  · exact h.boxes.far (p := ⟨b, off + i * 8 + j, none⟩) (fun e => ha.bm b e hbb) u
  · show (q.ms.set i m).map (·.p) = x.mails.set i m.p
    rw [List.map_set, h.same]
  · have h1 := hsb.store (i * 8 + j) u
    rw [flatG_set encM_length q.ms i j hi2 hj u m hm] at h1
    rw [hv]
    show Sl _ _ 8 _ q.hm (x.mails.set i m.p).length (flatG encM (q.ms.set i m))
    rw [List.length_set]
    rw [← Nat.add_assoc] at h1
    exact h1
  · rcases List.mem_or_eq_of_mem_set ha2 with h1 | h1
    · exact (h.parts a h1).step hco hown
    · subst h1
      exact hp.step hco hown

/-- A new account. -/
theorem storeAt_new {gl b : Nat} {c : CfgP} (hB : Blk w g 105 (cellsS ⟨gl, none, some b, none, .slice (some ⟨b, 0, none⟩) 1 1, .slice none 0 0, []⟩ (newP c)).toArray) (hl : LogAt w gl none ⟨c.maxLog, [], 0⟩)
    (hb : Blk w b 52 (encB ⟨1, inboxT, 0, 1, 1, 1⟩).toArray) : StoreAt w g ⟨gl, none, some b, none, .slice (some ⟨b, 0, none⟩) 1 1, .slice none 0 0, []⟩ (newP c) := by
  refine ⟨hB, hl, ⟨rfl, .inr ⟨b, 0, 1, _, rfl, rfl, hb, Nat.le_refl _, by unfold maxLen; omega, by simp [encB], ?_⟩⟩, rfl, Sl.nil _ _ _, fun m hm => by simp at hm⟩
  simp [newP, flatG, encB]
end

end Go.Proofs.YtmbibhphpjmboaaGreatDoor
