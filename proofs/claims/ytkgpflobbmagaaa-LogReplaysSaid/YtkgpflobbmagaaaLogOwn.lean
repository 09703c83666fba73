/-
  A log of the law's own: what is made, added, asked, copied, with all its memory behind what was there. And the plain law that most of the statements share: a Since without a bound tells all at once.
-/
import Derived.Test.YtkgpflobbmagaaaLogAwake
namespace Go.Proofs.Ytkgpflobbmagaaa
open Go.RowKit

structure OwnLog (w wr : World) (g : Nat) (h : Option Nat) (x : LogV) : Prop where
  log : LogAt wr g h x
  below : Below w.heap.size w wr
  og : w.heap.size ≤ g
  oh : ∀ b, h = some b → w.heap.size ≤ b

section
variable {w wr w' : World} {g : Nat} {h h' : Option Nat} {x x' : LogV}

theorem OwnLog.later (q : OwnLog w wr g h x) (hb : Below wr.heap.size wr w') : OwnLog w w' g h x :=
  ⟨q.log.chg (Chg.of_below hb []) (by simp) (by simp), bthen' q.below hb, q.og, q.oh⟩
theorem OwnLog.alloc (q : OwnLog w wr g h x) (o : Obj) : OwnLog w (wr.alloc o) g h x :=
  ⟨q.log.alloc o, q.below.alloc q.below.size o, q.og, q.oh⟩
theorem OwnLog.heap (q : OwnLog w wr g h x) (e : w'.heap = wr.heap) (e1 : w'.os = wr.os) (e2 : w'.tape = wr.tape) (e3 : w'.output = wr.output) : OwnLog w w' g h x :=
  ⟨q.log.heap e, ⟨e1.trans q.below.os, e2.trans q.below.tape, e3.trans q.below.output, by rw [e]; exact q.below.size, fun k hk => by rw [e]; exact q.below.block k hk⟩, q.og, q.oh⟩
theorem OwnLog.turned (q : OwnLog w wr g h x) (hl : LogAt w' g h' x') (hc : Chg (g :: h.toList) wr w') (ho : h' = h ∨ ∃ k, h' = some k ∧ wr.heap.size ≤ k) : OwnLog w w' g h' x' := by
  refine ⟨hl, own_below q.below hc q.below.size q.og q.oh, q.og, fun b hb => ?_⟩
  rcases ho with h1 | ⟨k, h1, h2⟩
  · exact q.oh b (h1 ▸ hb)
  · rw [h1] at hb
    injection hb with hb
    have := q.below.size
    omega
theorem OwnLog.new (hl : LogAt w' w.heap.size none x) (hb : Below w.heap.size w w') : OwnLog w w' w.heap.size none x := ⟨hl, hb, Nat.le_refl _, fun _ h => by cases h⟩
theorem OwnLog.ne (q : OwnLog w wr g h x) : wr.heap.size ∉ g :: h.toList := by
  obtain ⟨v, hB, hs⟩ := q.log
  intro hm
  simp at hm
  rcases hm with h1 | h1
  · have := hB.lt
    omega
  · have := hs.lt _ h1
    omega

theorem addO (q : OwnLog w wr g h x) (e : List E4) (n cap : Nat) (cs : Array Value) (hn : e.length = n) (hcs : cs.toList = flatE e) (hm1 : 1 ≤ x.most) (hm2 : x.most ≤ 1099511627776) (hn1 : x.es.length ≤ 1099511627776) (hn2 : n ≤ 1099511627776) :
    Calls Try.prog 21 #[.pointer (some ⟨g, 0, none⟩), .slice (some ⟨wr.heap.size, 0, none⟩) n cap] (wr.alloc (.cells cs 42)) fun e' w' => e' = .returned (.tuple #[]) ∧ ∃ h', OwnLog w w' g h' (x.add e) := by
  subst hn
  refine (add_any (wr.alloc (.cells cs 42)) g h x (some ⟨wr.heap.size, 0, none⟩) cap e (q.log.alloc _) hm1 hm2 hn1 hn2 (rdE_new wr e cs _ _ hcs q.ne)).mono ?_
  rintro e' w' ⟨he, h', hl, hc, ho⟩
  exact ⟨he, h', (q.alloc _).turned hl hc ho⟩

theorem allO (q : OwnLog w wr g h x) (hn : x.es.length ≤ 2199023255552) (n : Nat) (hlen : x.es.length = n) :
    Calls Try.prog 26 #[.pointer (some ⟨g, 0, none⟩)] wr fun e w' => ∃ A cap hh, e = .returned (.slice A n cap) ∧ OwnLog w w' g h x ∧ Below wr.heap.size wr w' ∧ Sl w' 42 4 (.slice A n cap) hh n (flatE x.es) ∧ ∀ b, hh = some b → wr.heap.size ≤ b := by
  subst hlen
  refine (all_any wr g h x q.log hn).mono ?_
  rintro e w' ⟨v, hh, rfl, hs, hb, ho⟩
  obtain ⟨A, cap, rfl, _, _⟩ := hs.form
  exact ⟨A, cap, hh, rfl, q.later hb, hb, hs, ho⟩

/-- Lists that a Since handed back. -/
def Lists (w' : World) (B : Nat) (t : Told) (A0 A1 A2 : Option Addr) (p0 p1 p2 : Nat) : Prop :=
  ∃ (cv : Nat → Value) (hh : Nat → Option Nat), cv 0 = .slice A0 t.made.length p0 ∧ cv 1 = .slice A1 t.turned.length p1 ∧ cv 2 = .slice A2 t.gone.length p2 ∧ (∀ i, i < 3 → Sl w' 3 1 (cv i) (hh i) (lsOf t i).length (intsV (lsOf t i))) ∧ ∀ i k, hh i = some k → B ≤ k

theorem sinceO (q : OwnLog w wr g h x) (kind frm clock most : Int) (hn : x.es.length ≤ 1099511627776) (t : Told) (st er : Int) (more : Bool) (hans : x.since kind frm clock most = ⟨t, st, more, er⟩) :
    Calls Try.prog 22 #[.pointer (some ⟨g, 0, none⟩), .int .i64 kind, .int .i64 frm, .int .i64 clock, .int .i64 most] wr fun e w' =>
      ∃ A0 A1 A2 p0 p1 p2, e = .returned (.tuple #[.agg #[.slice A0 t.made.length p0, .slice A1 t.turned.length p1, .slice A2 t.gone.length p2, .int .i64 st, .bool more], .int .i64 er]) ∧ OwnLog w w' g h x ∧ Below wr.heap.size wr w' ∧ Lists w' wr.heap.size t A0 A1 A2 p0 p1 p2 := by
  have h1 := since_any wr g h x kind frm clock most q.log hn
  rw [hans] at h1
  refine h1.mono ?_
  rintro e w' ⟨c, rfl, hch, hb⟩
  obtain ⟨A0, A1, A2, p0, p1, p2, cv, hh, rfl, k0, k1, k2, hsl, hown⟩ := hch.form
  exact ⟨A0, A1, A2, p0, p1, p2, rfl, q.later hb, hb, cv, hh, k0, k1, k2, hsl, hown⟩
end

theorem told_nil : told [] = ⟨[], [], []⟩ := rfl
theorem loopP_all (frm clock most : Int) (hm : ¬ 0 < most) : ∀ (f : Nat) (done rest : List E4) (last : Int), rest.length ≤ f → loopP frm clock most f done rest (told done) last = ⟨told (done ++ rest), clock, false, 0⟩
  | 0, done, rest, last, h => by
    have : rest = [] := List.eq_nil_of_length_eq_zero (by omega)
    subst this
    simp [loopP]
  | f + 1, done, [], last, _ => by simp [loopP]
  | f + 1, done, x :: r, last, h => by
    have hlen : 1 ≤ ((x :: r).takeWhile (fun e => e.m == x.m)).length := by simp
    have hsplit : (x :: r).takeWhile (fun e => e.m == x.m) ++ (x :: r).drop ((x :: r).takeWhile (fun e => e.m == x.m)).length = x :: r := by
      have h1 := List.takeWhile_append_dropWhile (p := fun e => e.m == x.m) (l := x :: r)
      have h2 : (x :: r).drop ((x :: r).takeWhile (fun e => e.m == x.m)).length = (x :: r).dropWhile (fun e => e.m == x.m) := by
        conv => lhs; rw [← h1]
        conv => lhs; arg 1; rw [h1]
        rw [List.drop_left]
      rw [h2]
      exact h1
    rw [loopP]
    rw [if_neg (fun hh => hm hh.1), loopP_all frm clock most hm f _ _ _ (by rw [List.length_drop]; omega), List.append_assoc, hsplit]

/-- A Since without a bound, in reach. -/
theorem since_all (x : LogV) (kind frm clock most : Int) (hm : ¬ 0 < most) (hf : ¬ frm < x.floor) (hc : ¬ clock < frm) : x.since kind frm clock most = ⟨told (x.es.filter (takes kind frm clock)), clock, false, 0⟩ := by
  unfold LogV.since
  rw [if_neg (by omega)]
  exact loopP_all frm clock most hm _ [] _ _ (Nat.le_refl _)
theorem since_none (x : LogV) (kind frm clock most : Int) (h : frm < x.floor ∨ clock < frm) : x.since kind frm clock most = ⟨⟨[], [], []⟩, 0, false, 12⟩ := by
  unfold LogV.since
  rw [if_pos h]
  rfl

/-- The built-in max and min, of two whole numbers. -/
theorem run_max_int {P : Program} (ats : Array TypeId) (ty : TypeId) (a b : Int) (w : World) : (Builtin.max_ ats ty #[.int .i64 a, .int .i64 b]).run P w = .ok (.int .i64 (if a < b then b else a)) w := by
  simp [Builtin.max_, Builtin.max2]
theorem run_min_int {P : Program} (ats : Array TypeId) (ty : TypeId) (a b : Int) (w : World) : (Builtin.min_ ats ty #[.int .i64 a, .int .i64 b]).run P w = .ok (.int .i64 (if b < a then b else a)) w := by
  simp [Builtin.min_, Builtin.min2]

end Go.Proofs.Ytkgpflobbmagaaa
