/-
  The walk of pillarboxlaw17.LogRuns.
-/
import Derived.Test.YtkgpflobbmagaaaRefSince
import Derived.StillTailTactics
namespace Go.Proofs.Ytkgpflobbmagaaa
open Go.RowKit
attribute [local go_sem ↓] Go.wp_at_zero Go.wp_at_succ

theorem rdE_of {w wr : World} {A : Option Addr} {cap n : Nat} {e : List E4} {S : List Nat} (hr : RdS w [] 4 (.slice A n cap) e.length (flatE e)) (hb : Below w.heap.size w wr) (hS : ∀ k ∈ S, w.heap.size ≤ k) : RdE wr A S e := by
  intro hne
  have hpos : 0 < e.length := List.length_pos_iff.2 hne
  obtain ⟨b, off, cap2, hv, _, _, hbl, _, hat⟩ := hr.at_ hpos
  injection hv with h1 _ _
  refine ⟨b, off, h1, Nat.lt_of_lt_of_le hbl hb.size, fun hm => ?_, fun j hj => ?_⟩
  · have := hS b hm
    omega
  · exact (hb.cell (p := ⟨b, off + j, none⟩) hbl).trans (hat j hj)

theorem below_of_drew {B : Nat} {w w' : World} (h : Below B w.drew w') : Below B w w' := ⟨h.os, h.tape, h.output, h.size, h.block⟩

/-- The program's log and the reference's, of one content. -/
structure Both (w wr : World) (g : Nat) (h : Option Nat) (g2 : Nat) (h2 : Option Nat) (x : LogV) : Prop where
  one : LogAt wr g h x
  two : RLogAt wr g2 h2 x
  below : Below w.heap.size w wr
  og : w.heap.size ≤ g
  oh : ∀ b, h = some b → w.heap.size ≤ b
  og2 : w.heap.size ≤ g2
  oh2 : ∀ b, h2 = some b → w.heap.size ≤ b
  nh : ∀ b, h = some b → h2 ≠ some b

section
variable {w wr w' : World} {g g2 : Nat} {h h2 h' : Option Nat} {x y : LogV}
theorem Both.later (q : Both w wr g h g2 h2 x) (hb : Below wr.heap.size wr w') : Both w w' g h g2 h2 x :=
  ⟨q.one.chg (Chg.of_below hb []) (by simp) (by simp), q.two.chg (Chg.of_below hb []) (by simp) (by simp), bthen' q.below hb, q.og, q.oh, q.og2, q.oh2, q.nh⟩
theorem Both.alloc (q : Both w wr g h g2 h2 x) (o : Obj) : Both w (wr.alloc o) g h g2 h2 x := q.later ((Below.refl _ _).alloc (Nat.le_refl _) o)
theorem Both.drewN (q : Both w wr g h g2 h2 x) (n : Nat) : Both w (wr.drewN n) g h g2 h2 x := ⟨q.one.heap rfl, q.two.heap rfl, below_drewN q.below n, q.og, q.oh, q.og2, q.oh2, q.nh⟩
theorem Both.heap (q : Both w wr g h g2 h2 x) (e : w'.heap = wr.heap) (e1 : w'.os = wr.os) (e2 : w'.tape = wr.tape) (e3 : w'.output = wr.output) : Both w w' g h g2 h2 x :=
  ⟨q.one.heap e, q.two.heap e, ⟨e1.trans q.below.os, e2.trans q.below.tape, e3.trans q.below.output, by rw [e]; exact q.below.size, fun k hk => by rw [e]; exact q.below.block k hk⟩, q.og, q.oh, q.og2, q.oh2, q.nh⟩
theorem Both.apart (q : Both w wr g h g2 h2 x) : g2 ∉ g :: h.toList ∧ (∀ b, h2 = some b → b ∉ g :: h.toList) ∧ g ∉ g2 :: h2.toList ∧ (∀ b, h = some b → b ∉ g2 :: h2.toList) := by
  obtain ⟨v, hB, hs⟩ := q.one
  obtain ⟨v2, hB2, hs2⟩ := q.two
  have hgg : g ≠ g2 := hB.ne hB2 (by decide)
  refine ⟨fun hm => ?_, fun b hb hm => ?_, fun hm => ?_, fun b hb hm => ?_⟩ <;> simp at hm
  · rcases hm with h1 | h1
    · exact hgg h1.symm
    · exact hs.ne_blk hB2 (by decide) g2 h1 rfl
  · rcases hm with h1 | h1
    · exact hs2.ne_blk hB (by decide) b hb h1
    · exact q.nh b h1 hb
  · rcases hm with h1 | h1
    · exact hgg h1
    · exact hs2.ne_blk hB (by decide) g h1 rfl
  · rcases hm with h1 | h1
    · exact hs.ne_blk hB2 (by decide) b hb h1
    · exact q.nh b hb h1
end

/-- Both take the same. -/
structure Mid (w wr : World) (g : Nat) (h : Option Nat) (g2 : Nat) (h2 : Option Nat) (x y : LogV) : Prop where
  one : LogAt wr g h y
  two : RLogAt wr g2 h2 x
  below : Below w.heap.size w wr
  og : w.heap.size ≤ g
  oh : ∀ b, h = some b → w.heap.size ≤ b
  og2 : w.heap.size ≤ g2
  oh2 : ∀ b, h2 = some b → w.heap.size ≤ b
  nh : ∀ b, h = some b → h2 ≠ some b

section
variable {w wr w' : World} {g g2 : Nat} {h h2 h' : Option Nat} {x y : LogV}
theorem Both.first (q : Both w wr g h g2 h2 x) (hl : LogAt w' g h' y) (hc : Chg (g :: h.toList) wr w') (ho : h' = h ∨ ∃ k, h' = some k ∧ wr.heap.size ≤ k) : Mid w w' g h' g2 h2 x y := by
  obtain ⟨a1, a2, _, _⟩ := q.apart
  refine ⟨hl, q.two.chg hc a1 a2, own_below q.below hc q.below.size q.og q.oh, q.og, fun b hb => ?_, q.og2, q.oh2, fun b hb hh => ?_⟩
  · rcases ho with h1 | ⟨k, h1, h3⟩
    · exact q.oh b (h1 ▸ hb)
    · rw [h1] at hb
      injection hb with hb
      have := q.below.size
      omega
  · rcases ho with h1 | ⟨k, h1, h3⟩
    · exact q.nh b (h1 ▸ hb) hh
    · rw [h1] at hb
      injection hb with hb
      obtain ⟨v2, _, hs2⟩ := q.two
      have := hs2.lt b hh
      omega
theorem Mid.second {h2' : Option Nat} (q : Mid w wr g h g2 h2 x y) (hl : RLogAt w' g2 h2' y) (hc : Chg (g2 :: h2.toList) wr w') (ho : h2' = h2 ∨ ∃ k, h2' = some k ∧ wr.heap.size ≤ k) : Both w w' g h g2 h2' y := by
  obtain ⟨v, hB, hs⟩ := q.one
  obtain ⟨v2, hB2, hs2⟩ := q.two
  have hgg : g ≠ g2 := hB.ne hB2 (by decide)
  have a1 : g ∉ g2 :: h2.toList := by
    intro hm
    simp at hm
    rcases hm with h1 | h1
    · exact hgg h1
    · exact hs2.ne_blk hB (by decide) g h1 rfl
  have a2 : ∀ b, h = some b → b ∉ g2 :: h2.toList := by
    intro b hb hm
    simp at hm
    rcases hm with h1 | h1
    · exact hs.ne_blk hB2 (by decide) b hb h1
    · exact q.nh b hb h1
  refine ⟨q.one.chg hc a1 a2, hl, own_below q.below hc q.below.size q.og2 q.oh2, q.og, q.oh, q.og2, fun b hb => ?_, fun b hb hh => ?_⟩
  · rcases ho with h1 | ⟨k, h1, h3⟩
    · exact q.oh2 b (h1 ▸ hb)
    · rw [h1] at hb
      injection hb with hb
      have := q.below.size
      omega
  · rcases ho with h1 | ⟨k, h1, h3⟩
    · exact q.nh b hb (h1 ▸ hh)
    · rw [h1] at hh
      injection hh with hh
      have := hs.lt b hb
      omega
end

theorem Both.start {w w1 : World} {most : Int} (hl : LogAt w1 w.heap.size none ⟨most, [], 0⟩) (hb : Below w.heap.size w w1) :
    Both w (w1.alloc (.cells #[.int .i64 most, .slice none 0 0, .int .i64 0] 60)) w.heap.size none w1.heap.size none ⟨most, [], 0⟩ := by
  have hs := hb.size
  refine ⟨?_, ⟨_, Blk.new _ _ _, Sl.nil _ _ _⟩, hb.alloc hs _, Nat.le_refl _, (fun _ h => by cases h), by omega, (fun _ h => by cases h), (fun _ h => by cases h)⟩
  obtain ⟨v, h1, h2⟩ := hl
  exact ⟨v, h1.alloc _, h2.alloc _⟩

section
variable {w wr w' : World} {g g2 : Nat} {h h2 h' : Option Nat} {x y : LogV}
theorem runs_add1 (q : Both w wr g h g2 h2 x) (m1 : 1 ≤ x.most) (m2 : x.most ≤ 2000) (hn1 : x.es.length ≤ 2000) (A : Option Addr) (n cap : Nat) (e : List E4) (hn2 : n ≤ 40) (hr : RdS w [] 4 (.slice A n cap) e.length (flatE e)) :
    Calls Try.prog 21 #[.pointer (some ⟨g, 0, none⟩), .slice A n cap] wr fun e' w' => e' = .returned (.tuple #[]) ∧ ∃ h', Mid w w' g h' g2 h2 x (x.add e) := by
  have hne : n = e.length := by
    obtain ⟨A', c', hv, _⟩ := hr.form
    injection hv
  subst hne
  refine (add_any wr g h x A cap e q.one m1 (by omega) (by omega) (by omega) (rdE_of hr q.below (fun k hk => ?_))).mono ?_
  · simp at hk
    rcases hk with rfl | hk
    · exact q.og
    · exact q.oh k hk
  · rintro e' w' ⟨he, h', hl, hc, ho⟩
    exact ⟨he, h', q.first hl hc ho⟩
theorem runs_add2 (q : Mid w wr g h g2 h2 x y) (m1 : 1 ≤ x.most) (m2 : x.most ≤ 2000) (hn1 : x.es.length ≤ 2000) (A : Option Addr) (n cap : Nat) (e : List E4) (hn2 : n ≤ 40) (hr : RdS w [] 4 (.slice A n cap) e.length (flatE e)) (hy : x.add e = y) :
    Calls Try.prog 27 #[.pointer (some ⟨g2, 0, none⟩), .slice A n cap] wr fun e' w' => e' = .returned (.tuple #[]) ∧ ∃ h2', Both w w' g h g2 h2' y := by
  have hne : n = e.length := by
    obtain ⟨A', c', hv, _⟩ := hr.form
    injection hv
  subst hne
  refine (refAdd_any wr g2 h2 x A cap e q.two m1 (by omega) (by omega) (by omega) (rdE_of hr q.below (fun k hk => ?_))).mono ?_
  · simp at hk
    rcases hk with rfl | hk
    · exact q.og2
    · exact q.oh2 k hk
  · rintro e' w' ⟨he, h', hl, hc, ho⟩
    rw [hy] at hl
    exact ⟨he, h', q.second hl hc ho⟩
theorem runs_all (q : Both w wr g h g2 h2 x) (n : Nat) (hlen : x.es.length = n) (hn : n ≤ 2000) :
    Calls Try.prog 26 #[.pointer (some ⟨g, 0, none⟩)] wr fun e w' => ∃ A cap, e = .returned (.slice A n cap) ∧ Both w w' g h g2 h2 x ∧ Below wr.heap.size wr w' ∧ RdS w' [] 4 (.slice A n cap) n (flatE x.es) := by
  subst hlen
  refine (all_any wr g h x q.one (by omega)).mono ?_
  rintro e w' ⟨v, hh, rfl, hs, hb, ho⟩
  obtain ⟨A, cap, rfl, _, _⟩ := hs.form
  exact ⟨A, cap, rfl, q.later hb, hb, hs.reads [] (by simp)⟩
theorem runs_since1 (q : Both w wr g h g2 h2 x) (kind frm clock most : Int) (hn : x.es.length ≤ 2000) (t : Told) (st er : Int) (more : Bool) (hans : x.since kind frm clock most = ⟨t, st, more, er⟩) :
    Calls Try.prog 22 #[.pointer (some ⟨g, 0, none⟩), .int .i64 kind, .int .i64 frm, .int .i64 clock, .int .i64 most] wr fun e w' =>
      ∃ A0 A1 A2 p0 p1 p2, e = .returned (.tuple #[.agg #[.slice A0 t.made.length p0, .slice A1 t.turned.length p1, .slice A2 t.gone.length p2, .int .i64 st, .bool more], .int .i64 er]) ∧ Both w w' g h g2 h2 x ∧ Below wr.heap.size wr w' ∧ RdL w' t A0 A1 A2 p0 p1 p2 := by
  have h1 := since_any wr g h x kind frm clock most q.one (by omega)
  rw [hans] at h1
  refine h1.mono ?_
  rintro e w' ⟨c, rfl, hch, hb⟩
  obtain ⟨A0, A1, A2, p0, p1, p2, cv, hh, rfl, k0, k1, k2, hsl, hown⟩ := hch.form
  exact ⟨A0, A1, A2, p0, p1, p2, rfl, q.later hb, hb, Lists.reads (B := wr.heap.size) ⟨cv, hh, k0, k1, k2, hsl, hown⟩⟩
theorem runs_since2 (q : Both w wr g h g2 h2 x) (kind frm clock most : Int) (hn : x.es.length ≤ 2000) (t : Told) (st er : Int) (more : Bool) (hans : x.since kind frm clock most = ⟨t, st, more, er⟩) :
    Calls Try.prog 29 #[.pointer (some ⟨g2, 0, none⟩), .int .i64 kind, .int .i64 frm, .int .i64 clock, .int .i64 most] wr fun e w' =>
      ∃ A0 A1 A2 p0 p1 p2, e = .returned (.tuple #[.agg #[.slice A0 t.made.length p0, .slice A1 t.turned.length p1, .slice A2 t.gone.length p2, .int .i64 st, .bool more], .int .i64 er]) ∧ Both w w' g h g2 h2 x ∧ Below wr.heap.size wr w' ∧ RdL w' t A0 A1 A2 p0 p1 p2 := by
  have h1 := refSince_any wr g2 h2 x kind frm clock most q.two (by omega)
  rw [hans] at h1
  refine h1.mono ?_
  rintro e w' ⟨c, rfl, hch, hb⟩
  obtain ⟨A0, A1, A2, p0, p1, p2, cv, hh, rfl, k0, k1, k2, hsl, hown⟩ := hch.form
  exact ⟨A0, A1, A2, p0, p1, p2, rfl, q.later hb, hb, Lists.reads (B := wr.heap.size) ⟨cv, hh, k0, k1, k2, hsl, hown⟩⟩
end

/-- What the law's loops keep. -/
structure RunsOk (w wr : World) (g : Nat) (h : Option Nat) (g2 : Nat) (h2 : Option Nat) (x : LogV) (most : Int) : Prop where
  both : Both w wr g h g2 h2 x
  most_ : x.most = most
  len : x.es.length ≤ 2000

end Go.Proofs.Ytkgpflobbmagaaa
