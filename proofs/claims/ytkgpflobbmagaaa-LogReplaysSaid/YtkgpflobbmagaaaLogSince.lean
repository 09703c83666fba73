/-
  The walk of Log.Since.
-/
import Derived.Test.YtkgpflobbmagaaaLogSince1
import Derived.Carry
namespace Go.Proofs.Ytkgpflobbmagaaa
open Go.RowKit
attribute [local go_sem ↓] Go.wp_at_zero Go.wp_at_succ

/-- Memory in Since's first loop: the result's block, what was taken so far. -/
structure S1 (w wr : World) (R : Nat) (th : Option Nat) (tv : Value) (l : List E4) : Prop where
  bR : Blk wr R 46 #[.slice none 0 0, .slice none 0 0, .slice none 0 0, .int .i64 0, .bool false]
  sT : Sl wr 42 4 tv th l.length (flatE l)
  below : Below w.heap.size w wr
  oth : ∀ x, th = some x → w.heap.size ≤ x
  oR : w.heap.size ≤ R

theorem S1.alloc {w wr : World} {R : Nat} {th : Option Nat} {tv : Value} {l : List E4} (q : S1 w wr R th tv l) (o : Obj) : S1 w (wr.alloc o) R th tv l :=
  ⟨q.bR.alloc o, q.sT.alloc o, q.below.alloc q.below.size o, q.oth, q.oR⟩
theorem S1.app {w wr w2 : World} {R : Nat} {th h2 : Option Nat} {tv v2 : Value} {l : List E4} {o : Obj} {y : E4} (q : S1 w wr R th tv l)
    (hs2 : Sl w2 42 4 v2 h2 (l.length + 1) (flatE l ++ (#[.int .i64 y.m, .int .i64 y.k, .int .i64 y.i, .int .i64 y.h] : Array Value).toList))
    (hc2 : Chg th.toList (wr.alloc o) w2) (ho2 : h2 = th ∨ ∃ g, h2 = some g ∧ (wr.alloc o).heap.size ≤ g) : S1 w w2 R h2 v2 (l ++ [y]) := by
  have hsz : (wr.alloc o).heap.size = wr.heap.size + 1 := by simp
  have hfl : flatE l ++ (#[.int .i64 y.m, .int .i64 y.k, .int .i64 y.i, .int .i64 y.h] : Array Value).toList = flatE (l ++ [y]) := by rw [flatE_append]; rfl
  rw [hfl] at hs2
  refine ⟨(q.bR.alloc o).chg hc2 (fun hm => q.sT.ne_blk q.bR (by decide) R (by simpa using hm) rfl), by rw [List.length_append]; exact hs2, ?_, fun x hx => ?_, q.oR⟩
  · refine (q.below.alloc q.below.size o).trans (hc2.below (by rw [hsz]; have := q.below.size; omega) fun k hk => q.oth k (by simpa using hk))
  · rcases ho2 with h3 | ⟨g, h3, h4⟩
    · exact q.oth x (h3 ▸ hx)
    · rw [h3] at hx
      injection hx with hx
      have := q.below.size
      omega

theorem filter_take_succ (f : E4 → Bool) (l : List E4) (k : Nat) (hk : k < l.length) : (l.take (k + 1)).filter f = (l.take k).filter f ++ (if f l[k] = true then [l[k]] else []) := by
  rw [List.take_succ_eq_append_getElem hk, List.filter_append]
  congr 1
  by_cases h : f l[k] = true <;> simp [h]

theorem SR.start {w wc : World} {R : Nat} {th : Option Nat} {tv : Value} {tk : List E4} {clock : Int} (q : S1 w wc R th tv tk) :
    SR w (((wc.alloc (.map #[] 0)).alloc (.cells #[.slice none 0 0, .map (some wc.heap.size)] 86)).alloc (.cells #[.slice none 0 0, .slice none 0 0, .slice none 0 0, .int .i64 clock, .bool false] 46)) R (wc.heap.size + 1 + 1) (wc.heap.size + 1) wc.heap.size none th tv tk clock 0 0 (fun _ => .slice none 0 0) (fun _ => none) := by
  have hR := q.bR.lt
  have hw := q.below.size
  refine ⟨((q.bR.alloc _).alloc _).alloc _, ?_, fun i _ => ?_, ((q.sT.alloc _).alloc _).alloc _, ⟨.slice none 0 0, [], ?_, Sl.nil _ _ _, ((MapI.new wc).alloc _).alloc _, fun _ => rfl⟩, ?_, q.oR, by omega, by omega, by omega, fun _ h => (by cases h), q.oth, fun _ _ _ h => (by cases h), by omega⟩
  · have h1 := Blk.new ((wc.alloc (.map #[] 0)).alloc (.cells #[.slice none 0 0, .map (some wc.heap.size)] 86)) 46 #[.slice none 0 0, .slice none 0 0, .slice none 0 0, .int .i64 clock, .bool false]
    simp only [World.size_alloc] at h1
    exact h1
  · have : lsOf (toldS (seenOf tk 0)) i = [] := by
      simp [seenOf, toldS, lsOf]
    rw [this]
    exact Sl.nil _ _ _
  · have h1 := (Blk.new (wc.alloc (.map #[] 0)) 86 #[.slice none 0 0, .map (some wc.heap.size)]).alloc (.cells #[.slice none 0 0, .slice none 0 0, .slice none 0 0, .int .i64 clock, .bool false] 46)
    simp only [World.size_alloc] at h1
    exact h1
  · exact ((q.below.alloc hw _).alloc (by simp; omega) _).alloc (by simp; omega) _

theorem Sl.reads_at {w : World} {e : TypeId} {size n n' b off cap : Nat} {h : Option Nat} {xs : List Value} (hs : Sl w e size (.slice (some ⟨b, off, none⟩) n' cap) h n xs) (hn : 0 < n) :
    b < w.heap.size ∧ ∀ j, j < n * size → w.cell? ⟨b, off + j, none⟩ = xs[j]? := by
  obtain ⟨b2, off2, cap2, _, hv, _, _, hbl, hat⟩ := hs.at_ hn
  injection hv with hv1 _ _
  injection hv1 with hv1
  injection hv1 with hb ho _
  subst hb
  subst ho
  exact ⟨hbl, fun j hj => (hat j hj).1⟩

theorem ChO.form {w : World} {B : Nat} {c : Array Value} {t : Told} {st : Int} {more : Bool} (h : ChO w B c t st more) : ∃ (A0 A1 A2 : Option Addr) (p0 p1 p2 : Nat) (cv : Nat → Value) (hh : Nat → Option Nat),
    c = #[.slice A0 t.made.length p0, .slice A1 t.turned.length p1, .slice A2 t.gone.length p2, .int .i64 st, .bool more] ∧ cv 0 = .slice A0 t.made.length p0 ∧ cv 1 = .slice A1 t.turned.length p1 ∧ cv 2 = .slice A2 t.gone.length p2 ∧
      (∀ i, i < 3 → Sl w 3 1 (cv i) (hh i) (lsOf t i).length (intsV (lsOf t i))) ∧ ∀ i k, hh i = some k → B ≤ k := by
  obtain ⟨cv, hh, rfl, hsl, hown⟩ := h
  obtain ⟨A0, p0, h0, _⟩ := (hsl 0 (by decide)).form
  obtain ⟨A1, p1, h1, _⟩ := (hsl 1 (by decide)).form
  obtain ⟨A2, p2, h2, _⟩ := (hsl 2 (by decide)).form
  refine ⟨A0, A1, A2, p0, p1, p2, cv, hh, ?_, h0, h1, h2, hsl, hown⟩
  rw [h0, h1, h2]
  rfl

/-- What the ends load, and where they store. -/
structure SinceCells (W : World) (R O : Nat) (u0 u1 u2 : Value) (clock : Int) : Prop where
  o0 : W.cell? ⟨O, 0, none⟩ = some u0
  o1 : W.cell? ⟨O, 1, none⟩ = some u1
  o2 : W.cell? ⟨O, 2, none⟩ = some u2
  o3 : W.cell? ⟨O, 3, none⟩ = some (.int .i64 clock)
  o4 : W.cell? ⟨O, 4, none⟩ = some (.bool false)
  of0 : W.frozen? ⟨O, 0, none⟩ = false
  of1 : W.frozen? ⟨O, 1, none⟩ = false
  of2 : W.frozen? ⟨O, 2, none⟩ = false
  of3 : W.frozen? ⟨O, 3, none⟩ = false
  of4 : W.frozen? ⟨O, 4, none⟩ = false
  rc0 : W.cell? ⟨R, 0, none⟩ = some (.slice none 0 0)
  rc1 : W.cell? ⟨R, 1, none⟩ = some (.slice none 0 0)
  rc2 : W.cell? ⟨R, 2, none⟩ = some (.slice none 0 0)
  rc3 : W.cell? ⟨R, 3, none⟩ = some (.int .i64 0)
  rc4 : W.cell? ⟨R, 4, none⟩ = some (.bool false)
  rf0 : W.frozen? ⟨R, 0, none⟩ = false
  rf1 : W.frozen? ⟨R, 1, none⟩ = false
  rf2 : W.frozen? ⟨R, 2, none⟩ = false
  rf3 : W.frozen? ⟨R, 3, none⟩ = false
  rf4 : W.frozen? ⟨R, 4, none⟩ = false
  ol : O < W.heap.size
  rl : R < W.heap.size
  ne1 : ¬ R = O
  ne2 : ¬ O = R
theorem SR.cells {w wr : World} {R O G b : Nat} {hs th : Option Nat} {tv : Value} {tk : List E4} {clock : Int} {k j : Nat} {ov : Nat → Value} {oh : Nat → Option Nat} {u0 u1 u2 : Value} (q : SR w wr R O G b hs th tv tk clock k j ov oh)
    (h0 : ov 0 = u0) (h1 : ov 1 = u1) (h2 : ov 2 = u2) : SinceCells wr R O u0 u1 u2 clock := by
  subst h0
  subst h1
  subst h2
  exact ⟨q.bO.cell 0, q.bO.cell 1, q.bO.cell 2, q.bO.cell 3, q.bO.cell 4, q.bO.frozen 0, q.bO.frozen 1, q.bO.frozen 2, q.bO.frozen 3, q.bO.frozen 4, q.bR.cell 0, q.bR.cell 1, q.bR.cell 2, q.bR.cell 3, q.bR.cell 4, q.bR.frozen 0, q.bR.frozen 1, q.bR.frozen 2, q.bR.frozen 3, q.bR.frozen 4, q.bO.lt, q.bR.lt, q.ne, fun h => q.ne h.symm⟩

theorem SR.zero {w wr : World} {R O G b : Nat} {hs th : Option Nat} {tv : Value} {tk : List E4} {clock : Int} {k j : Nat} {ov : Nat → Value} {oh : Nat → Option Nat} (q : SR w wr R O G b hs th tv tk clock k j ov oh) (o : Obj) :
    Below w.heap.size w ((st5 wr R (.slice none 0 0) (.slice none 0 0) (.slice none 0 0) (.int .i64 0) (.bool false)).alloc o) ∧ Blk ((st5 wr R (.slice none 0 0) (.slice none 0 0) (.slice none 0 0) (.int .i64 0) (.bool false)).alloc o) R 46 #[.slice none 0 0, .slice none 0 0, .slice none 0 0, .int .i64 0, .bool false] := by
  have h1 := ((((q.below.setCell (p := ⟨R, 0, none⟩) q.oR (.slice none 0 0)).setCell (p := ⟨R, 1, none⟩) q.oR (.slice none 0 0)).setCell (p := ⟨R, 2, none⟩) q.oR (.slice none 0 0)).setCell (p := ⟨R, 3, none⟩) q.oR (.int .i64 0)).setCell (p := ⟨R, 4, none⟩) q.oR (.bool false)
  exact ⟨h1.alloc h1.size o, (st5_blk q.bR).alloc o⟩
/-- What is handed back, whatever is made behind. -/
theorem SR.back2 {w wr W : World} {R O G b : Nat} {hs th : Option Nat} {tv : Value} {tk : List E4} {clock : Int} {k j : Nat} {ov : Nat → Value} {oh : Nat → Option Nat} {u0 u1 u2 : Value} {st : Int} {more : Bool} (q : SR w wr R O G b hs th tv tk clock k j ov oh) (hc : Chg [O] wr W)
    (hu : u0 = ov 0 ∧ u1 = ov 1 ∧ u2 = ov 2) (o : Obj) :
    ChO ((st5 W R u0 u1 u2 (.int .i64 st) (.bool more)).alloc o) w.heap.size #[u0, u1, u2, .int .i64 st, .bool more] (toldS (seenOf tk k)) st more ∧ Below w.heap.size w ((st5 W R u0 u1 u2 (.int .i64 st) (.bool more)).alloc o) ∧
      Blk ((st5 W R u0 u1 u2 (.int .i64 st) (.bool more)).alloc o) R 46 #[u0, u1, u2, .int .i64 st, .bool more] := by
  obtain ⟨⟨vs, hs, h1, h2, h3⟩, h4, h5⟩ := SR.back (st := st) (more := more) q hc hu
  exact ⟨⟨vs, hs, h1, fun i hi => (h2 i hi).alloc o, h3⟩, h4.alloc h4.size o, h5.alloc o⟩
/-- Behind a round, what was told lying behind the stores. -/
theorem SR.next2 {w wr : World} {R O G b : Nat} {hs th : Option Nat} {tv : Value} {tk : List E4} {clock : Int} {k j : Nat} {ov : Nat → Value} {oh : Nat → Option Nat} {o : Obj} {cv : Nat → Value} {ch : Nat → Option Nat} (q : SR w wr R O G b hs th tv tk clock k j ov oh)
    (hS : ∀ i, i < 3 → Sl wr 3 1 (cv i) (ch i) (lsOf (toldS (seenOf tk j)) i).length (intsV (lsOf (toldS (seenOf tk j)) i)))
    (hf : ∀ i x, i < 3 → ch i = some x → w.heap.size ≤ x ∧ hs ≠ some x) :
    SR w ((st5 wr O (cv 0) (cv 1) (cv 2) (.int .i64 clock) (.bool false)).alloc o) R O G b hs th tv tk clock j j cv ch := by
  have hc : Chg [O] wr ((st5 wr O (cv 0) (cv 1) (cv 2) (.int .i64 clock) (.bool false)).alloc o) := (st5_chg (Chg.refl [O] wr) (.inl (by simp))).alloc o
  obtain ⟨v, m, hB, hsl, hM, hg⟩ := q.sn
  have sl_ne : ∀ {e : TypeId} {size n : Nat} {v : Value} {h : Option Nat} {xs : List Value}, Sl wr e size v h n xs → e ≠ 46 → ∀ x, h = some x → x ∉ [O] := by
    intro e size n v h xs hs he x hx hm
    simp at hm
    exact hs.ne_blk q.bO he x hx hm
  refine ⟨q.bR.chg hc (by simpa using q.ne), (st5_blk q.bO).alloc o, fun i hi => (hS i hi).chg hc (sl_ne (hS i hi) (by decide)), q.sT.chg hc (sl_ne q.sT (by decide)), ⟨v, m, hB.chg hc (by simpa using hB.ne q.bO (by decide)), hsl.chg hc (sl_ne hsl (by decide)), hM.chg hc (by simpa using hM.ne_blk q.bO), hg⟩,
    q.below.trans (hc.below q.below.size (by simpa using q.oO)), q.oR, q.oO, q.oG, q.ob, q.ohs, q.oth, hf, q.ne⟩
theorem SR.hs_lt {w wr : World} {R O G b : Nat} {hs th : Option Nat} {tv : Value} {tk : List E4} {clock : Int} {k j : Nat} {ov : Nat → Value} {oh : Nat → Option Nat} (q : SR w wr R O G b hs th tv tk clock k j ov oh) (x : Nat) (h : hs = some x) : x < wr.heap.size := by
  obtain ⟨v, m, _, hsl, _, _⟩ := q.sn
  exact hsl.lt x h

theorem S1.took {w wr : World} {R : Nat} {th : Option Nat} {tv : Value} {l l' : List E4} {y : E4} {f : E4 → Bool} (q : S1 w wr R th tv (l ++ [y])) (hl : l' = l ++ (if f y = true then [y] else [])) (hyes : f y = true) : S1 w wr R th tv l' := by
  rw [hl, if_pos hyes]
  exact q
theorem S1.skip {w wr : World} {R : Nat} {th : Option Nat} {tv : Value} {l l' : List E4} {y : E4} {f : E4 → Bool} (q : S1 w wr R th tv l) (hl : l' = l ++ (if f y = true then [y] else [])) (hno : ¬ f y = true) (o : Obj) : S1 w (wr.alloc o) R th tv l' := by
  rw [hl, if_neg hno, List.append_nil]
  exact q.alloc o

theorem zeroChO (w : World) (B : Nat) : ChO w B #[.slice none 0 0, .slice none 0 0, .slice none 0 0, .int .i64 0, .bool false] ⟨[], [], []⟩ 0 false :=
  ⟨fun _ => .slice none 0 0, fun _ => none, rfl, fun i _ => by
    have : lsOf ⟨[], [], []⟩ i = [] := by
      unfold lsOf
      split
      · rfl
      · split
        · rfl
        · split <;> rfl
    rw [this]
    exact Sl.nil _ _ _, fun _ _ h => by cases h⟩

set_option maxRecDepth 100000 in
set_option maxHeartbeats 4000000 in
theorem since_any (w : World) (g : Nat) (h : Option Nat) (x : LogV) (kind frm clock most : Int) (hl : LogAt w g h x) (hn : x.es.length ≤ 1099511627776) :
    Calls Try.prog 22 #[.pointer (some ⟨g, 0, none⟩), .int .i64 kind, .int .i64 frm, .int .i64 clock, .int .i64 most] w fun e w' =>
      ∃ c, e = .returned (.tuple #[.agg c, .int .i64 (x.since kind frm clock most).err]) ∧ ChO w' w.heap.size c (x.since kind frm clock most).t (x.since kind frm clock most).state (x.since kind frm clock most).more ∧ Below w.heap.size w w' := by
  obtain ⟨i0, hi, hz0, hz1, hz2⟩ := info_parts Try.infoEntry
  obtain ⟨v, hB, hsl⟩ := hl
  have hgl := hB.lt
  have c1 : w.cell? ⟨g, 1, none⟩ = some v := hB.cell 1
  have c2 : w.cell? ⟨g, 2, none⟩ = some (.int .i64 x.floor) := hB.cell 2
  obtain ⟨A, cap, rfl, _, _⟩ := hsl.form
  have HSL := Lib.hid hsl
  clear hB hsl
  have hZ : Blk (w.alloc (.cells #[.slice none 0 0, .slice none 0 0, .slice none 0 0, .int .i64 0, .bool false] 46)) w.heap.size 46 #[.slice none 0 0, .slice none 0 0, .slice none 0 0, .int .i64 0, .bool false] := Blk.new w _ _
  have z0 : (w.alloc (.cells #[.slice none 0 0, .slice none 0 0, .slice none 0 0, .int .i64 0, .bool false] 46)).cell? ⟨w.heap.size, 0, none⟩ = some (.slice none 0 0) := hZ.cell 0
  have z1 : (w.alloc (.cells #[.slice none 0 0, .slice none 0 0, .slice none 0 0, .int .i64 0, .bool false] 46)).cell? ⟨w.heap.size, 1, none⟩ = some (.slice none 0 0) := hZ.cell 1
  have z2 : (w.alloc (.cells #[.slice none 0 0, .slice none 0 0, .slice none 0 0, .int .i64 0, .bool false] 46)).cell? ⟨w.heap.size, 2, none⟩ = some (.slice none 0 0) := hZ.cell 2
  have z3 : (w.alloc (.cells #[.slice none 0 0, .slice none 0 0, .slice none 0 0, .int .i64 0, .bool false] 46)).cell? ⟨w.heap.size, 3, none⟩ = some (.int .i64 0) := hZ.cell 3
  have z4 : (w.alloc (.cells #[.slice none 0 0, .slice none 0 0, .slice none 0 0, .int .i64 0, .bool false] 46)).cell? ⟨w.heap.size, 4, none⟩ = some (.bool false) := hZ.cell 4
  by_cases hfl : frm < x.floor
  · have hans : x.since kind frm clock most = Ans.none_ := by
      unfold LogV.since
      rw [if_pos (.inl hfl)]
    rw [hans]
    go_enter Try.func22, Try.ntmps22
    go_wp2
    refine bodyPost_ret (v := .tuple #[.agg #[.slice none 0 0, .slice none 0 0, .slice none 0 0, .int .i64 0, .bool false], .int .i64 12]) ?_ rfl ⟨_, rfl, zeroChO _ _, (Below.refl _ _).alloc (Nat.le_refl _) _⟩
    simp [results, Try.results22, go_sem, z0, z1, z2, z3, z4]
  · by_cases hcl : clock < frm
    · have hans : x.since kind frm clock most = Ans.none_ := by
        unfold LogV.since
        rw [if_pos (.inr hcl)]
      rw [hans]
      go_enter Try.func22, Try.ntmps22
      go_wp2
      refine bodyPost_ret (v := .tuple #[.agg #[.slice none 0 0, .slice none 0 0, .slice none 0 0, .int .i64 0, .bool false], .int .i64 12]) ?_ rfl ⟨_, rfl, zeroChO _ _, (Below.refl _ _).alloc (Nat.le_refl _) _⟩
      simp [results, Try.results22, go_sem, z0, z1, z2, z3, z4]
    · obtain ⟨ans, hans⟩ : ∃ ans, x.since kind frm clock most = ans := ⟨_, rfl⟩
      have hgo : loopP frm clock most (x.es.filter (takes kind frm clock)).length [] (x.es.filter (takes kind frm clock)) ⟨[], [], []⟩ frm = ans := by
        rw [← hans]
        unfold LogV.since
        rw [if_neg (by omega)]
      rw [hans]
      have HGO := Lib.hid hgo
      clear hgo hans z0 z1 z2 z3 z4
      have hstart : S1 w (w.alloc (.cells #[.slice none 0 0, .slice none 0 0, .slice none 0 0, .int .i64 0, .bool false] 46)) w.heap.size none (.slice none 0 0) ((x.es.take 0).filter (takes kind frm clock)) :=
        ⟨hZ, (by simp only [List.take_zero, List.filter_nil]; exact Sl.nil _ _ _), (Below.refl _ _).alloc (Nat.le_refl _) _, (fun _ h => by cases h), Nat.le_refl _⟩
      have HS := Lib.hid hstart
      clear hstart hZ
      obtain ⟨L, hL⟩ : ∃ L, x.es.length = L := ⟨_, rfl⟩
      rw [hL] at c1 hn HSL
      have HL := Lib.hid hL
      clear hL
      go_enter Try.func22, Try.ntmps22
      go_upto_block 1 with (fail)
      go_cut [12] (fun tv wx => ∃ th, Hid (S1 w wx w.heap.size th tv (x.es.filter (takes kind frm clock))))
      case first =>
        go_wp2_with fail
        go_loopw [12, 41] (fun tv i wr => ∃ (k : Nat) (th : Option Nat), k ≤ L ∧ i = .int .i64 k ∧ Hid (S1 w wr w.heap.size th tv ((x.es.take k).filter (takes kind frm clock)))) (fun _ i _ => L - (intOf i).toNat)
        case atStart => exact ⟨0, _, Nat.zero_le _, rfl, HS⟩
        case round =>
          obtain ⟨k, th, hk, rfl, HU⟩ := hrel
          by_cases hlt : k < L
          · have hke : k < x.es.length := by rw [HL.out]; exact hlt
            have hbel := HU.out.below
            have hwsz := hbel.size
            obtain ⟨ba, off, cap2, hh, hva, _, _, hbl, hat⟩ := HSL.out.at_ (by omega)
            injection hva with hva1 _ hva3
            subst hva1
            subst hva3
            have hrd : ∀ j, j < L * 4 → wr.cell? ⟨ba, off + j, none⟩ = (flatE x.es)[j]? := fun j hj => (hbel.cell (p := ⟨ba, off + j, none⟩) hbl).trans (hat j hj).1
            obtain ⟨f0, f1, f2, f3⟩ := flatE_at x.es k hke
            have d0 : wr.cell? ⟨ba, off + k * 4, none⟩ = some (.int .i64 x.es[k].m) := (hrd (k * 4) (by omega)).trans f0
            have d1 : wr.cell? ⟨ba, off + k * 4 + 1, none⟩ = some (.int .i64 x.es[k].k) := (hrd (k * 4 + 1) (by omega)).trans f1
            have d2 : wr.cell? ⟨ba, off + k * 4 + 2, none⟩ = some (.int .i64 x.es[k].i) := (hrd (k * 4 + 2) (by omega)).trans f2
            have d3 : wr.cell? ⟨ba, off + k * 4 + 3, none⟩ = some (.int .i64 x.es[k].h) := (hrd (k * 4 + 3) (by omega)).trans f3
            clear hrd hat f0 f1 f2 f3
            have hbl2 : ba < wr.heap.size := Nat.lt_of_lt_of_le hbl hwsz
            have hsucc := filter_take_succ (takes kind frm clock) x.es k hke
            have hlen : ((x.es.take k).filter (takes kind frm clock)).length ≤ 1099511627776 := by
              have := List.length_filter_le (takes kind frm clock) (x.es.take k)
              rw [List.length_take] at this
              omega
            have HSUCC := Lib.hid hsucc
            have HLEN := Lib.hid hlen
            clear hsucc hlen hbel
            generalize x.es[k] = y at d0 d1 d2 d3 HSUCC
            by_cases hk1 : y.k = kind
            · have hk1' : (y.k == kind) = true := by simpa using hk1
              by_cases hm1 : frm < y.m
              · by_cases hm2 : y.m ≤ clock
                · have htk : takes kind frm clock y = true := by simp [takes, hk1, hm1, hm2]
                  clear hk1
                  go_wp2_with (at_builtin; refine wpList_append_slX rfl _ _ 43 rfl Try.underlying43 hi hz0 hz1 hz2 rfl (by decide) (HU.out.sT.alloc _) rfl (wr.heap.size + 1) (by simp) 1 1 rfl rfl ?_ ?_ ?_ ?_)
                  · simp [Value.oneCell']
                  · have := HLEN.out
                    unfold maxLen
                    omega
                  · have := HLEN.out
                    omega
                  · intro v2 h2 w2 hs2 hc2 ho2
                    have q := HU.out.app hs2 hc2 (by simpa using ho2)
                    obtain ⟨A2, cap3, rfl, _, _⟩ := hs2.form
                    have hq := S1.took q HSUCC.out htk
                    have HQ := Lib.hid hq
                    clear q hq hs2 hc2 ho2
                    go_wp2
                    refine ⟨?_, by simp [intOf]; omega⟩
                    first | exact ⟨k + 1, _, by omega, by go_num, HQ⟩ | ((repeat apply Exists.intro); exact ⟨⟨k + 1, _, by omega, by go_num, HQ⟩, rfl⟩)
                · have HQ := fun o => Lib.hid (S1.skip HU.out HSUCC.out (by simp [takes, hm2]) o)
                  clear hk1
                  go_wp2
                  refine ⟨?_, by simp [intOf]; omega⟩
                  first | exact ⟨k + 1, _, by omega, by go_num, HQ _⟩ | ((repeat apply Exists.intro); exact ⟨⟨k + 1, _, by omega, by go_num, HQ _⟩, rfl⟩)
              · have HQ := fun o => Lib.hid (S1.skip HU.out HSUCC.out (by simp [takes, hm1]) o)
                clear hk1
                go_wp2
                refine ⟨?_, by simp [intOf]; omega⟩
                first | exact ⟨k + 1, _, by omega, by go_num, HQ _⟩ | ((repeat apply Exists.intro); exact ⟨⟨k + 1, _, by omega, by go_num, HQ _⟩, rfl⟩)
            · have hk1' : (y.k == kind) = false := by simpa using hk1
              have HQ := fun o => Lib.hid (S1.skip HU.out HSUCC.out (by simp [takes, hk1]) o)
              go_wp2
              refine ⟨?_, by simp [intOf]; omega⟩
              first | exact ⟨k + 1, _, by omega, by go_num, HQ _⟩ | ((repeat apply Exists.intro); exact ⟨⟨k + 1, _, by omega, by go_num, HQ _⟩, rfl⟩)
          · have hkL : k = L := by omega
            subst hkL
            have h1 := HU.out
            rw [List.take_of_length_le (by rw [HL.out]; exact Nat.le_refl _)] at h1
            have HQ := Lib.hid h1
            clear h1
            go_wp2_with fail
            go_meet
            exact ⟨_, HQ⟩
      case rest =>
        obtain ⟨th, HU⟩ := hcut
        have hTl : (x.es.filter (takes kind frm clock)).length ≤ 1099511627776 := by
          have := List.length_filter_le (takes kind frm clock) x.es
          have := HL.out
          omega
        generalize x.es.filter (takes kind frm clock) = tk at HU HGO hTl
        obtain ⟨A1, cap1, hv1, _, _⟩ := HU.out.sT.form
        clear HL HSL c1 c2 hgl hfl hcl HS
        obtain ⟨T, hT⟩ : ∃ T, tk.length = T := ⟨_, rfl⟩
        rw [hT] at hTl HGO hv1
        subst hv1
        have HT := Lib.hid hT
        clear hT
        have hsr := SR.start (clock := clock) HU.out
        have HSR := Lib.hid hsr
        clear hsr HU
        have hmm := @run_makeMap Try.prog
        go_wp2_with fail
        clear hmm
        generalize ((wc.alloc (Obj.map #[] 0)).alloc (Obj.cells #[Value.slice none 0 0, Value.map (some wc.heap.size)] 86)).alloc (Obj.cells #[.slice none 0 0, .slice none 0 0, .slice none 0 0, .int .i64 clock, .bool false] 46) = W0 at HSR ⊢
        generalize wc.heap.size + 1 + 1 = O at HSR ⊢
        generalize wc.heap.size + 1 = G at HSR ⊢
        generalize wc.heap.size = b at HSR ⊢
        go_loopw [17, 18] (fun la i wr => ∃ (k f : Nat) (lst : Int) (hs : Option Nat) (ov : Nat → Value) (oh : Nat → Option Nat), k ≤ T ∧ la = .int .i64 lst ∧ i = .int .i64 k ∧ Hid (SR w wr w.heap.size O G b hs th (.slice A1 T cap1) tk clock k k ov oh) ∧ Hid (T ≤ k + f ∧ loopP frm clock most f (tk.take k) (tk.drop k) (toldS (seenOf tk k)) lst = ans)) (fun _ i _ => T - (intOf i).toNat)
        case atStart => exact ⟨0, T, frm, none, _, _, Nat.zero_le _, rfl, rfl, HSR, ⟨by omega, HGO.out⟩⟩
        case round =>
          obtain ⟨k, f, lst, hs, ov, oh, hk, rfl, rfl, HU, HF⟩ := hrel
          by_cases hlt : k < T
          · have hke : k < tk.length := by rw [HT.out]; exact hlt
            obtain ⟨ba, off, cap2, hh, hva, _, _, hbl, hat⟩ := HU.out.sT.at_ (by omega)
            injection hva with hva1 hva2 hva3
            clear hva2
            subst hva1
            subst hva3
            have d0 : wr.cell? ⟨ba, off + k * 4, none⟩ = some (.int .i64 tk[k].m) := (hat (k * 4) (by omega)).1.trans (flatE_at tk k hke).1
            clear hat
            generalize hm : tk[k].m = m at d0
            have HM := Lib.hid hm
            clear hm
            go_upto_block 5 with (fail)
            go_cut [18] (fun i wx => ∃ (j : Nat) (hs' : Option Nat), k < j ∧ j ≤ T ∧ i = .int .i64 j ∧ Hid (SR w wx w.heap.size O G b hs' th (.slice (some ⟨ba, off, none⟩) T cap1) tk clock k j ov oh) ∧ Hid ((∀ i, k ≤ i → i < j → ∀ h : i < tk.length, tk[i].m = m) ∧ ∀ h : j < tk.length, tk[j].m ≠ m))
            case first =>
              go_wp2_with fail
              go_loopw [18] (fun i wx => ∃ (j : Nat) (hs' : Option Nat), k ≤ j ∧ j ≤ T ∧ i = .int .i64 j ∧ Hid (SR w wx w.heap.size O G b hs' th (.slice (some ⟨ba, off, none⟩) T cap1) tk clock k j ov oh) ∧ Hid (∀ i, k ≤ i → i < j → ∀ h : i < tk.length, tk[i].m = m)) (fun i _ => T - (intOf i).toNat)
              case atStart => exact ⟨k, hs, Nat.le_refl _, hk, rfl, HU, Lib.hid (fun i h1 h2 => absurd h1 (by omega))⟩
              case round =>
                obtain ⟨j, hs2, hkj, hjT, rfl, HV, HA⟩ := hrel
                by_cases hjl : j < T
                · have hje : j < tk.length := by rw [HT.out]; exact hjl
                  obtain ⟨hbl2, hat⟩ := HV.out.sT.reads_at (by omega)
                  obtain ⟨f0, f1, f2, f3⟩ := flatE_at tk j hje
                  have e0 : wr.cell? ⟨ba, off + j * 4, none⟩ = some (.int .i64 tk[j].m) := (hat (j * 4) (by omega)).trans f0
                  have e1 : wr.cell? ⟨ba, off + j * 4 + 1, none⟩ = some (.int .i64 tk[j].k) := (hat (j * 4 + 1) (by omega)).trans f1
                  have e2 : wr.cell? ⟨ba, off + j * 4 + 2, none⟩ = some (.int .i64 tk[j].i) := (hat (j * 4 + 2) (by omega)).trans f2
                  have e3 : wr.cell? ⟨ba, off + j * 4 + 3, none⟩ = some (.int .i64 tk[j].h) := (hat (j * 4 + 3) (by omega)).trans f3
                  have hadd := listsAdd_any wr G hs2 b (seenOf tk j) tk[j] HV.out.sn (by have := seenOf_length tk j (by omega); omega)
                  have hnext := fun w' hs' => SR.add (w' := w') (hs' := hs') HV.out hje
                  have HN := Lib.hid hnext
                  clear hat f0 f1 f2 f3 hnext
                  by_cases hy : tk[j].m = m
                  · have hall : ∀ i, k ≤ i → i < j + 1 → ∀ h : i < tk.length, tk[i].m = m := fun i h1 h2 h => by
                      by_cases hij : i = j
                      · subst hij
                        exact hy
                      · exact HA.out i h1 (by omega) h
                    have HALL := Lib.hid hall
                    generalize tk[j] = y at e0 e1 e2 e3 hadd HN hy
                    have hy' : (y.m == m) = true := by simpa using hy
                    clear hall hy
                    go_wp2_with (go_at_call 44; refine hadd.mono ?_; rintro e w2 ⟨rfl, h2, hsn, hc, ho⟩; have HQ := Lib.hid (HN.out w2 h2 hsn hc ho); clear hsn hc ho hadd)
                    refine ⟨?_, by simp [intOf]; omega⟩
                    first | exact ⟨j + 1, h2, by omega, by omega, by go_num, HQ, HALL⟩ | ((repeat apply Exists.intro); exact ⟨⟨j + 1, h2, by omega, by omega, by go_num, HQ, HALL⟩, rfl⟩)
                  · have hy' : (tk[j].m == m) = false := by simpa using hy
                    have hlast : ∀ h : j < tk.length, tk[j].m ≠ m := fun _ => hy
                    have HLAST := Lib.hid hlast
                    have hkj2 : k < j := by
                      rcases Nat.lt_or_ge k j with h1 | h1
                      · exact h1
                      · obtain rfl : k = j := by omega
                        exact absurd HM.out hy
                    clear hlast hadd HN hy
                    generalize tk[j].m = ym at e0 hy'
                    go_wp2_with fail
                    go_meet
                    exact ⟨j, hs2, hkj2, hjT, rfl, HV, ⟨HA.out, HLAST.out⟩⟩
                · have hjT' : j = T := by omega
                  subst hjT'
                  go_wp2_with fail
                  go_meet
                  exact ⟨_, hs2, hlt, Nat.le_refl _, rfl, HV, ⟨HA.out, fun h => absurd h (by rw [HT.out]; omega)⟩⟩
            case rest =>
              obtain ⟨j, hs2, hkj, hjT, rfl, HV, HA⟩ := hcut
              obtain ⟨f, rfl⟩ : ∃ f', f = f' + 1 := ⟨f - 1, by have := HF.out.1; omega⟩
              have hjl : j ≤ tk.length := by rw [HT.out]; exact hjT
              have hstep := loopP_step frm clock most f tk k j (toldS (seenOf tk k)) lst m hkj hjl (fun i h1 h2 => HA.out.1 i h1 h2 (by omega)) HA.out.2
              rw [HF.out.2] at hstep
              have hsn := seenOf_length tk j hjl
              have hln : ∀ i, (lsOf (toldS (seenOf tk j)) i).length ≤ j := fun i => by
                have := toldF_len (seenOf tk j) (seenOf tk j).length (Nat.le_refl _) i
                rw [toldF_all] at this
                omega
              have htold := told_any wc G hs2 b (seenOf tk j) HV.out.sn (seenOf_nodup tk j hjl) (by omega)
              have n0 : (toldS (seenOf tk j)).made.length ≤ j := hln 0
              have n1 : (toldS (seenOf tk j)).turned.length ≤ j := hln 1
              have n2 : (toldS (seenOf tk j)).gone.length ≤ j := hln 2
              have hsz : ((toldS (seenOf tk j)).size : Int) = ((toldS (seenOf tk j)).made.length : Int) + ((toldS (seenOf tk j)).turned.length : Int) + ((toldS (seenOf tk j)).gone.length : Int) := by
                unfold Told.size
                omega
              rw [hsz] at hstep
              have ww1 : IntKind.i64.wrap (((toldS (seenOf tk j)).made.length : Int) + ((toldS (seenOf tk j)).turned.length : Int)) = ((toldS (seenOf tk j)).made.length : Int) + ((toldS (seenOf tk j)).turned.length : Int) := IntWalk.i64_in _ (by omega)
              have ww2 : IntKind.i64.wrap (((toldS (seenOf tk j)).made.length : Int) + ((toldS (seenOf tk j)).turned.length : Int) + ((toldS (seenOf tk j)).gone.length : Int)) = ((toldS (seenOf tk j)).made.length : Int) + ((toldS (seenOf tk j)).turned.length : Int) + ((toldS (seenOf tk j)).gone.length : Int) := IntWalk.i64_in _ (by omega)
              have HSTEP := Lib.hid hstep
              have hfl : T ≤ j + f := by have := HF.out.1; omega
              clear hstep hsn hln hjl hsz
              obtain ⟨D0, r0, hv0, _, _⟩ := (HU.out.sO 0 (by decide)).form
              obtain ⟨D1, r1, hv1, _, _⟩ := (HU.out.sO 1 (by decide)).form
              obtain ⟨D2, r2, hv2, _, _⟩ := (HU.out.sO 2 (by decide)).form
              have HV0 := Lib.hid hv0
              have HV1 := Lib.hid hv1
              have HV2 := Lib.hid hv2
              clear hv0 hv1 hv2 d0 hbl
              by_cases hmo : 0 < most
              · by_cases hov : most < ((toldS (seenOf tk j)).made.length : Int) + ((toldS (seenOf tk j)).turned.length : Int) + ((toldS (seenOf tk j)).gone.length : Int)
                · by_cases hlf : lst = frm
                  · have hend : ans = Ans.none_ := by
                      have h1 := HSTEP.out
                      rw [if_pos ⟨hmo, hov⟩, if_pos hlf] at h1
                      exact h1
                    have HEND := Lib.hid hend
                    have hlf' : (lst == frm) = true := by simpa using hlf
                    clear hend hlf
                    go_wp2_with (go_at_call 45; refine htold.mono ?_; rintro e w2 ⟨c, rfl, hch, hb⟩; obtain ⟨A0, A1, A2, p0, p1, p2, cv, hh2, rfl, k0, k1, k2, hsl, hown⟩ := hch.form; have HQ := Lib.hid (HV.out.later hb); have HSL2 := Lib.hid hsl; have HOWN := Lib.hid hown; have HK0 := Lib.hid k0; have HK1 := Lib.hid k1; have HK2 := Lib.hid k2; clear hb hch htold hsl hown k0 k1 k2; obtain ⟨o0, o1, o2, o3, o4, of0, of1, of2, of3, of4, rc0, rc1, rc2, rc3, rc4, rf0, rf1, rf2, rf3, rf4, ol, rl, ne1, ne2⟩ := HQ.out.cells HV0.out HV1.out HV2.out)
                    have hF := SR.zero HQ.out (.cells #[.slice A0 (toldS (seenOf tk j)).made.length p0, .slice A1 (toldS (seenOf tk j)).turned.length p1, .slice A2 (toldS (seenOf tk j)).gone.length p2, .int .i64 0, .bool false] 46)
                    unfold st5 at hF
                    generalize (((((w2.setCell ⟨w.heap.size, 0, none⟩ (.slice none 0 0)).setCell ⟨w.heap.size, 1, none⟩ (.slice none 0 0)).setCell ⟨w.heap.size, 2, none⟩ (.slice none 0 0)).setCell ⟨w.heap.size, 3, none⟩ (.int .i64 0)).setCell ⟨w.heap.size, 4, none⟩ (.bool false)).alloc (.cells #[.slice A0 (toldS (seenOf tk j)).made.length p0, .slice A1 (toldS (seenOf tk j)).turned.length p1, .slice A2 (toldS (seenOf tk j)).gone.length p2, .int .i64 0, .bool false] 46) = WF at hF ⊢
                    obtain ⟨q2, q3⟩ := hF
                    have s0 : WF.cell? ⟨w.heap.size, 0, none⟩ = some (.slice none 0 0) := q3.cell 0
                    have s1 : WF.cell? ⟨w.heap.size, 1, none⟩ = some (.slice none 0 0) := q3.cell 1
                    have s2 : WF.cell? ⟨w.heap.size, 2, none⟩ = some (.slice none 0 0) := q3.cell 2
                    have s3 : WF.cell? ⟨w.heap.size, 3, none⟩ = some (.int .i64 0) := q3.cell 3
                    have s4 : WF.cell? ⟨w.heap.size, 4, none⟩ = some (.bool false) := q3.cell 4
                    refine bodyPost_ret (v := .tuple #[.agg #[.slice none 0 0, .slice none 0 0, .slice none 0 0, .int .i64 0, .bool false], .int .i64 12]) ?_ rfl ?_
                    · simp [results, Try.results22, go_sem, s0, s1, s2, s3, s4]
                    · rw [HEND.out]
                      exact ⟨_, rfl, zeroChO _ _, q2⟩
                  · have hend : ans = ⟨toldS (seenOf tk k), lst, true, 0⟩ := by
                      have h1 := HSTEP.out
                      rw [if_pos ⟨hmo, hov⟩, if_neg hlf] at h1
                      exact h1
                    have HEND := Lib.hid hend
                    have hlf' : (lst == frm) = false := by simpa using hlf
                    clear hend hlf
                    go_wp2_with (go_at_call 45; refine htold.mono ?_; rintro e w2 ⟨c, rfl, hch, hb⟩; obtain ⟨A0, A1, A2, p0, p1, p2, cv, hh2, rfl, k0, k1, k2, hsl, hown⟩ := hch.form; have HQ := Lib.hid (HV.out.later hb); have HSL2 := Lib.hid hsl; have HOWN := Lib.hid hown; have HK0 := Lib.hid k0; have HK1 := Lib.hid k1; have HK2 := Lib.hid k2; clear hb hch htold hsl hown k0 k1 k2; obtain ⟨o0, o1, o2, o3, o4, of0, of1, of2, of3, of4, rc0, rc1, rc2, rc3, rc4, rf0, rf1, rf2, rf3, rf4, ol, rl, ne1, ne2⟩ := HQ.out.cells HV0.out HV1.out HV2.out)
                    have hF := SR.back2 (st := lst) (more := true) HQ.out (W := (w2.setCell ⟨O, 3, none⟩ (.int .i64 lst)).setCell ⟨O, 4, none⟩ (.bool true)) (((Chg.refl [O] w2).set (p := ⟨O, 3, none⟩) (.inl (by simp)) (.int .i64 lst)).set (p := ⟨O, 4, none⟩) (.inl (by simp)) (.bool true)) ⟨HV0.out.symm, HV1.out.symm, HV2.out.symm⟩ (.cells #[.slice A0 (toldS (seenOf tk j)).made.length p0, .slice A1 (toldS (seenOf tk j)).turned.length p1, .slice A2 (toldS (seenOf tk j)).gone.length p2, .int .i64 0, .bool false] 46)
                    unfold st5 at hF
                    generalize (((((((w2.setCell ⟨O, 3, none⟩ (.int .i64 lst)).setCell ⟨O, 4, none⟩ (.bool true)).setCell ⟨w.heap.size, 0, none⟩ (.slice D0 (lsOf (toldS (seenOf tk k)) 0).length r0)).setCell ⟨w.heap.size, 1, none⟩ (.slice D1 (lsOf (toldS (seenOf tk k)) 1).length r1)).setCell ⟨w.heap.size, 2, none⟩ (.slice D2 (lsOf (toldS (seenOf tk k)) 2).length r2)).setCell ⟨w.heap.size, 3, none⟩ (.int .i64 lst)).setCell ⟨w.heap.size, 4, none⟩ (.bool true)).alloc (.cells #[.slice A0 (toldS (seenOf tk j)).made.length p0, .slice A1 (toldS (seenOf tk j)).turned.length p1, .slice A2 (toldS (seenOf tk j)).gone.length p2, .int .i64 0, .bool false] 46) = WF at hF ⊢
                    obtain ⟨q1, q2, q3⟩ := hF
                    have s0 : WF.cell? ⟨w.heap.size, 0, none⟩ = some (.slice D0 (lsOf (toldS (seenOf tk k)) 0).length r0) := q3.cell 0
                    have s1 : WF.cell? ⟨w.heap.size, 1, none⟩ = some (.slice D1 (lsOf (toldS (seenOf tk k)) 1).length r1) := q3.cell 1
                    have s2 : WF.cell? ⟨w.heap.size, 2, none⟩ = some (.slice D2 (lsOf (toldS (seenOf tk k)) 2).length r2) := q3.cell 2
                    have s3 : WF.cell? ⟨w.heap.size, 3, none⟩ = some (.int .i64 lst) := q3.cell 3
                    have s4 : WF.cell? ⟨w.heap.size, 4, none⟩ = some (.bool true) := q3.cell 4
                    refine bodyPost_ret (v := .tuple #[.agg #[.slice D0 (lsOf (toldS (seenOf tk k)) 0).length r0, .slice D1 (lsOf (toldS (seenOf tk k)) 1).length r1, .slice D2 (lsOf (toldS (seenOf tk k)) 2).length r2, .int .i64 lst, .bool true], .int .i64 0]) ?_ rfl ?_
                    · simp [results, Try.results22, go_sem, s0, s1, s2, s3, s4]
                    · rw [HEND.out]
                      exact ⟨_, rfl, q1, q2⟩

                · have hnext : T ≤ j + f ∧ loopP frm clock most f (tk.take j) (tk.drop j) (toldS (seenOf tk j)) m = ans := ⟨hfl, by
                    have h1 := HSTEP.out
                    rw [if_neg (by omega)] at h1
                    exact h1.symm⟩
                  have HNEXT := Lib.hid hnext
                  clear hnext
                  go_wp2_with (go_at_call 45; refine htold.mono ?_; rintro e w2 ⟨c, rfl, hch, hb⟩; obtain ⟨A0, A1, A2, p0, p1, p2, cv, hh2, rfl, k0, k1, k2, hsl, hown⟩ := hch.form; have HQ := Lib.hid (HV.out.later hb); have HSL2 := Lib.hid hsl; have HOWN := Lib.hid hown; have HK0 := Lib.hid k0; have HK1 := Lib.hid k1; have HK2 := Lib.hid k2; clear hb hch htold hsl hown k0 k1 k2; obtain ⟨o0, o1, o2, o3, o4, of0, of1, of2, of3, of4, rc0, rc1, rc2, rc3, rc4, rf0, rf1, rf2, rf3, rf4, ol, rl, ne1, ne2⟩ := HQ.out.cells HV0.out HV1.out HV2.out)
                  have hq := SR.next2 (o := .cells #[.slice A0 (toldS (seenOf tk j)).made.length p0, .slice A1 (toldS (seenOf tk j)).turned.length p1, .slice A2 (toldS (seenOf tk j)).gone.length p2, .int .i64 clock, .bool false] 46) HQ.out HSL2.out (fun i y hi hy => ⟨Nat.le_trans HV.out.below.size (HOWN.out i y hy), fun hs3 => by have h1 := HV.out.hs_lt y hs3; have h2 := HOWN.out i y hy; omega⟩)
                  rw [HK0.out, HK1.out, HK2.out] at hq
                  unfold st5 at hq
                  have HQN := Lib.hid hq
                  clear hq
                  refine ⟨?_, by simp [intOf]; omega⟩
                  first | exact ⟨j, f, m, hs2, cv, hh2, hjT, rfl, by go_num, HQN, HNEXT⟩ | ((repeat apply Exists.intro); exact ⟨⟨j, f, m, hs2, cv, hh2, hjT, rfl, by go_num, HQN, HNEXT⟩, rfl⟩)

              · have hnext : T ≤ j + f ∧ loopP frm clock most f (tk.take j) (tk.drop j) (toldS (seenOf tk j)) m = ans := ⟨hfl, by
                  have h1 := HSTEP.out
                  rw [if_neg (by omega)] at h1
                  exact h1.symm⟩
                have HNEXT := Lib.hid hnext
                clear hnext
                go_wp2_with (go_at_call 45; refine htold.mono ?_; rintro e w2 ⟨c, rfl, hch, hb⟩; obtain ⟨A0, A1, A2, p0, p1, p2, cv, hh2, rfl, k0, k1, k2, hsl, hown⟩ := hch.form; have HQ := Lib.hid (HV.out.later hb); have HSL2 := Lib.hid hsl; have HOWN := Lib.hid hown; have HK0 := Lib.hid k0; have HK1 := Lib.hid k1; have HK2 := Lib.hid k2; clear hb hch htold hsl hown k0 k1 k2; obtain ⟨o0, o1, o2, o3, o4, of0, of1, of2, of3, of4, rc0, rc1, rc2, rc3, rc4, rf0, rf1, rf2, rf3, rf4, ol, rl, ne1, ne2⟩ := HQ.out.cells HV0.out HV1.out HV2.out)
                have hq := SR.next2 (o := .cells #[.slice A0 (toldS (seenOf tk j)).made.length p0, .slice A1 (toldS (seenOf tk j)).turned.length p1, .slice A2 (toldS (seenOf tk j)).gone.length p2, .int .i64 clock, .bool false] 46) HQ.out HSL2.out (fun i y hi hy => ⟨Nat.le_trans HV.out.below.size (HOWN.out i y hy), fun hs3 => by have h1 := HV.out.hs_lt y hs3; have h2 := HOWN.out i y hy; omega⟩)
                rw [HK0.out, HK1.out, HK2.out] at hq
                unfold st5 at hq
                have HQN := Lib.hid hq
                clear hq
                refine ⟨?_, by simp [intOf]; omega⟩
                first | exact ⟨j, f, m, hs2, cv, hh2, hjT, rfl, by go_num, HQN, HNEXT⟩ | ((repeat apply Exists.intro); exact ⟨⟨j, f, m, hs2, cv, hh2, hjT, rfl, by go_num, HQN, HNEXT⟩, rfl⟩)

          · have hkT : k = T := by omega
            subst hkT
            have hend : ans = ⟨toldS (seenOf tk k), clock, false, 0⟩ := by
              have h1 := HF.out.2
              rw [show tk.drop k = [] from List.drop_of_length_le (by rw [HT.out]; exact Nat.le_refl _)] at h1
              rw [← h1]
              cases f <;> rfl
            have HEND := Lib.hid hend
            clear hend
            obtain ⟨D0, r0, hv0, _, _⟩ := (HU.out.sO 0 (by decide)).form
            obtain ⟨D1, r1, hv1, _, _⟩ := (HU.out.sO 1 (by decide)).form
            obtain ⟨D2, r2, hv2, _, _⟩ := (HU.out.sO 2 (by decide)).form
            have HV0 := Lib.hid hv0
            have HV1 := Lib.hid hv1
            have HV2 := Lib.hid hv2
            obtain ⟨o0, o1, o2, o3, o4, of0, of1, of2, of3, of4, rc0, rc1, rc2, rc3, rc4, rf0, rf1, rf2, rf3, rf4, ol, rl, ne1, ne2⟩ := HU.out.cells hv0 hv1 hv2
            clear hv0 hv1 hv2
            go_wp2
            have hv0 := HV0.out
            have hv1 := HV1.out
            have hv2 := HV2.out
            have hF := SR.back (st := clock) (more := false) HU.out (W := wr.setCell ⟨O, 3, none⟩ (.int .i64 clock)) ((Chg.refl [O] wr).set (p := ⟨O, 3, none⟩) (.inl (by simp)) (.int .i64 clock)) ⟨hv0.symm, hv1.symm, hv2.symm⟩
            unfold st5 at hF
            generalize (((((wr.setCell ⟨O, 3, none⟩ (.int .i64 clock)).setCell ⟨w.heap.size, 0, none⟩ (.slice D0 (lsOf (toldS (seenOf tk k)) 0).length r0)).setCell ⟨w.heap.size, 1, none⟩ (.slice D1 (lsOf (toldS (seenOf tk k)) 1).length r1)).setCell ⟨w.heap.size, 2, none⟩ (.slice D2 (lsOf (toldS (seenOf tk k)) 2).length r2)).setCell ⟨w.heap.size, 3, none⟩ (.int .i64 clock)).setCell ⟨w.heap.size, 4, none⟩ (.bool false) = WF at hF ⊢
            obtain ⟨q1, q2, q3⟩ := hF
            have s0 : WF.cell? ⟨w.heap.size, 0, none⟩ = some (.slice D0 (lsOf (toldS (seenOf tk k)) 0).length r0) := q3.cell 0
            have s1 : WF.cell? ⟨w.heap.size, 1, none⟩ = some (.slice D1 (lsOf (toldS (seenOf tk k)) 1).length r1) := q3.cell 1
            have s2 : WF.cell? ⟨w.heap.size, 2, none⟩ = some (.slice D2 (lsOf (toldS (seenOf tk k)) 2).length r2) := q3.cell 2
            have s3 : WF.cell? ⟨w.heap.size, 3, none⟩ = some (.int .i64 clock) := q3.cell 3
            have s4 : WF.cell? ⟨w.heap.size, 4, none⟩ = some (.bool false) := q3.cell 4
            refine bodyPost_ret (v := .tuple #[.agg #[.slice D0 (lsOf (toldS (seenOf tk k)) 0).length r0, .slice D1 (lsOf (toldS (seenOf tk k)) 1).length r1, .slice D2 (lsOf (toldS (seenOf tk k)) 2).length r2, .int .i64 clock, .bool false], .int .i64 0]) ?_ rfl ?_
            · simp [results, Try.results22, go_sem, s0, s1, s2, s3, s4]
            · rw [HEND.out]
              exact ⟨_, rfl, q1, q2⟩

end Go.Proofs.Ytkgpflobbmagaaa
