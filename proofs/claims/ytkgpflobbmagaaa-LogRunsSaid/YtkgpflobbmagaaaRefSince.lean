/-
  The walk of the reference's Log.Since.
-/
import Derived.Test.YtkgpflobbmagaaaRefTell
namespace Go.Proofs.Ytkgpflobbmagaaa
open Go.RowKit
attribute [local go_sem ↓] Go.wp_at_zero Go.wp_at_succ

theorem S1.later {w wr w' : World} {R : Nat} {th : Option Nat} {tv : Value} {l : List E4} (q : S1 w wr R th tv l) (hb : Below wr.heap.size wr w') : S1 w w' R th tv l :=
  ⟨q.bR.chg (Chg.of_below hb []) (by simp), q.sT.chg (Chg.of_below hb []) (by simp), bthen' q.below hb, q.oth, q.oR⟩
theorem S1.drewN {w wr : World} {R : Nat} {th : Option Nat} {tv : Value} {l : List E4} (q : S1 w wr R th tv l) (n : Nat) : S1 w (wr.drewN n) R th tv l :=
  ⟨q.bR.heap rfl, q.sT.heap rfl, below_drewN q.below n, q.oth, q.oR⟩
/-- The first k of a list can be read. -/
theorem Sl.firsts {w : World} {e : TypeId} {h : Option Nat} {n n' cap k : Nat} {A : Option Addr} {l : List E4} (hs : Sl w e 4 (.slice A n' cap) h n (flatE l)) (hl : l.length = n) (hk : k ≤ n) : RdS w [] 4 (.slice A k cap) k (flatE (l.take k)) := by
  have hlen : (flatE (l.take k)).length = k * 4 := by rw [flatE_length, List.length_take]; omega
  refine ⟨hlen, ?_⟩
  rcases Nat.eq_zero_or_pos n with h0 | h0
  · subst h0
    obtain rfl : k = 0 := by omega
    rcases hs.2 with ⟨_, hv, _⟩ | ⟨b, off, cap', cur, _, hv, hB, hn, hc, hsz, ht⟩
    · injection hv with h1 h2 h3
      subst h1
      subst h3
      exact .inl ⟨rfl, rfl⟩
    · injection hv with h1 h2 h3
      subst h1
      subst h3
      exact .inr ⟨⟨b, off, none⟩, cap, rfl, Nat.zero_le _, hc, fun h => absurd h (by omega)⟩
  · obtain ⟨b, off, cap2, _, hv, hn, hc, hbl, hat⟩ := hs.at_ h0
    injection hv with h1 h2 h3
    subst h1
    subst h3
    refine .inr ⟨⟨b, off, none⟩, cap, rfl, by omega, hc, fun _ => ⟨rfl, hbl, by simp, fun j hj => ?_⟩⟩
    rw [(hat j (by omega)).1]
    have h2 : flatE l = flatE (l.take k) ++ flatE (l.drop k) := by rw [← flatE_append, List.take_append_drop]
    rw [h2, List.getElem?_append_left (by omega)]

theorem S1.fin {w wr : World} {R : Nat} {th : Option Nat} {tv : Value} {l : List E4} {t : Told} {cv : Nat → Value} {hh : Nat → Option Nat} {u0 u1 u2 : Value} {st : Int} {more : Bool} (q : S1 w wr R th tv l)
    (hsl : ∀ i, i < 3 → Sl wr 3 1 (cv i) (hh i) (lsOf t i).length (intsV (lsOf t i))) (hown : ∀ i k, hh i = some k → w.heap.size ≤ k) (hu : cv 0 = u0 ∧ cv 1 = u1 ∧ cv 2 = u2) (o : Obj) :
    ChO ((st5 wr R u0 u1 u2 (.int .i64 st) (.bool more)).alloc o) w.heap.size #[u0, u1, u2, .int .i64 st, .bool more] t st more ∧ Below w.heap.size w ((st5 wr R u0 u1 u2 (.int .i64 st) (.bool more)).alloc o) ∧
      Blk ((st5 wr R u0 u1 u2 (.int .i64 st) (.bool more)).alloc o) R 46 #[u0, u1, u2, .int .i64 st, .bool more] := by
  obtain ⟨rfl, rfl, rfl⟩ := hu
  have hb := ((((q.below.setCell (p := ⟨R, 0, none⟩) q.oR (cv 0)).setCell (p := ⟨R, 1, none⟩) q.oR (cv 1)).setCell (p := ⟨R, 2, none⟩) q.oR (cv 2)).setCell (p := ⟨R, 3, none⟩) q.oR (.int .i64 st)).setCell (p := ⟨R, 4, none⟩) q.oR (.bool more)
  refine ⟨⟨cv, hh, rfl, fun i hi => ?_, hown⟩, hb.alloc hb.size o, (st5_blk q.bR).alloc o⟩
  refine Sl.alloc ((hsl i hi).chg (st5_chg (Chg.refl [R] wr) (.inl (by simp))) (fun x hx hm => ?_)) o
  simp at hm
  exact (hsl i hi).ne_blk q.bR (by decide) x hx hm
theorem S1.cells {w wr : World} {R : Nat} {th : Option Nat} {tv : Value} {l : List E4} (q : S1 w wr R th tv l) :
    wr.cell? ⟨R, 0, none⟩ = some (.slice none 0 0) ∧ wr.cell? ⟨R, 1, none⟩ = some (.slice none 0 0) ∧ wr.cell? ⟨R, 2, none⟩ = some (.slice none 0 0) ∧ wr.cell? ⟨R, 3, none⟩ = some (.int .i64 0) ∧ wr.cell? ⟨R, 4, none⟩ = some (.bool false) ∧
      wr.frozen? ⟨R, 0, none⟩ = false ∧ wr.frozen? ⟨R, 1, none⟩ = false ∧ wr.frozen? ⟨R, 2, none⟩ = false ∧ wr.frozen? ⟨R, 3, none⟩ = false ∧ wr.frozen? ⟨R, 4, none⟩ = false ∧ R < wr.heap.size :=
  ⟨q.bR.cell 0, q.bR.cell 1, q.bR.cell 2, q.bR.cell 3, q.bR.cell 4, q.bR.frozen 0, q.bR.frozen 1, q.bR.frozen 2, q.bR.frozen 3, q.bR.frozen 4, q.bR.lt⟩

/-- What the reference answers, by what it took. -/
def refAns (l : List E4) (clock : Int) (k : Nat) (st : Int) : Ans :=
  if k = 0 ∧ 0 < l.length then Ans.none_ else ⟨told (l.take k), if k < l.length then st else clock, decide (k < l.length), 0⟩
theorem refAns_over (frm clock most : Int) (f : Nat) (l : List E4) (k j : Nat) (st m : Int) (ans : Ans) (hk : k < j) (hj : j ≤ l.length) (hsame : ∀ i, k ≤ i → (h : i < j) → (l[i]'(by omega)).m = m) (hstop : ∀ h : j < l.length, (l[j]'h).m ≠ m)
    (hst : k = 0 ∨ st ≠ frm) (h : loopP frm clock most (f + 1) (l.take k) (l.drop k) (told (l.take k)) (if k = 0 then frm else st) = ans) (ho : 0 < most ∧ most < (told (l.take j)).size) : ans = refAns l clock k st := by
  rw [loopP_step frm clock most f l k j _ _ m hk hj hsame hstop, if_pos (show 0 < most ∧ most < ((toldS (seenOf l j)).size : Int) from ho)] at h
  rw [← h]
  unfold refAns
  by_cases h0 : k = 0
  · subst h0
    simp [show 0 < l.length from by omega]
  · have h1 : st ≠ frm := hst.resolve_left h0
    simp [h0, h1, show k < l.length from by omega]
theorem refAns_end (frm clock most : Int) (f : Nat) (l : List E4) (k : Nat) (st : Int) (ans : Ans) (hk : k = l.length)
    (h : loopP frm clock most f (l.take k) (l.drop k) (told (l.take k)) (if k = 0 then frm else st) = ans) : ans = refAns l clock k st := by
  have hd : l.drop k = [] := List.drop_of_length_le (by omega)
  rw [hd] at h
  have h2 : ans = ⟨told (l.take k), clock, false, 0⟩ := by
    rw [← h]
    cases f <;> rfl
  rw [h2]
  unfold refAns
  rw [if_neg (by omega), if_neg (by omega)]
  simp [hk]

set_option maxRecDepth 100000 in
set_option maxHeartbeats 4000000 in
theorem refSince_any (w : World) (g : Nat) (h : Option Nat) (x : LogV) (kind frm clock most : Int) (hl : RLogAt w g h x) (hn : x.es.length ≤ 1099511627776) :
    Calls Try.prog 29 #[.pointer (some ⟨g, 0, none⟩), .int .i64 kind, .int .i64 frm, .int .i64 clock, .int .i64 most] w fun e w' =>
      ∃ c, e = .returned (.tuple #[.agg c, .int .i64 (x.since kind frm clock most).err]) ∧ ChO w' w.heap.size c (x.since kind frm clock most).t (x.since kind frm clock most).state (x.since kind frm clock most).more ∧ Below w.heap.size w w' := by
  obtain ⟨i0, hi, hz0, hz1, hz2⟩ := info_parts Try.infoEntry
  obtain ⟨v, hB, hsl⟩ := hl
  have hgl := hB.lt
  have c1 : w.cell? ⟨g, 1, none⟩ = some v := hB.cell 1
  have c2 : w.cell? ⟨g, 2, none⟩ = some (.int .i64 x.floor) := hB.cell 2
  obtain ⟨A, cap, rfl, _, _⟩ := hsl.form
  have HSL := Lib.hid hsl
  clear hB hsl
  have hZ : Blk (w.alloc (.cells #[.slice none 0 0, .slice none 0 0, .slice none 0 0, .int .i64 0, .bool false] 46)) w.heap.size 46 #[.slice none 0 0, .slice none 0 0, .slice none 0 0, .int .i64 0, .bool false] := Blk.new w _ _
  have z0 : (w.alloc (.cells #[.slice none 0 0, .slice none 0 0, .slice none 0 0, .int .i64 0, .bool false] 46)).cell? ⟨w.heap.size, 0, none⟩ = some (.slice none 0 0) := hZ.cell 0
  have z1 : (w.alloc (.cells #[.slice none 0 0, .slice none 0 0, .slice none 0 0, .int .i64 0, .bool false] 46)).cell? ⟨w.heap.size, 1, none⟩ = some (.slice none 0 0) := hZ.cell 1
  have z2 : (w.alloc (.cells #[.slice none 0 0, .slice none 0 0, .slice none 0 0, .int .i64 0, .bool false] 46)).cell? ⟨w.heap.size, 2, none⟩ = some (.slice none 0 0) := hZ.cell 2
  have z3 : (w.alloc (.cells #[.slice none 0 0, .slice none 0 0, .slice none 0 0, .int .i64 0, .bool false] 46)).cell? ⟨w.heap.size, 3, none⟩ = some (.int .i64 0) := hZ.cell 3
  have z4 : (w.alloc (.cells #[.slice none 0 0, .slice none 0 0, .slice none 0 0, .int .i64 0, .bool false] 46)).cell? ⟨w.heap.size, 4, none⟩ = some (.bool false) := hZ.cell 4
  by_cases hfl : frm < x.floor
  · have hans : x.since kind frm clock most = Ans.none_ := by
      unfold LogV.since
      rw [if_pos (.inl hfl)]
    rw [hans]
    go_enter Try.func29, Try.ntmps29
    go_wp2
    refine bodyPost_ret (v := .tuple #[.agg #[.slice none 0 0, .slice none 0 0, .slice none 0 0, .int .i64 0, .bool false], .int .i64 12]) ?_ rfl ⟨_, rfl, zeroChO _ _, (Below.refl _ _).alloc (Nat.le_refl _) _⟩
    simp [results, Try.results29, go_sem, z0, z1, z2, z3, z4]
  · by_cases hcl : clock < frm
    · have hans : x.since kind frm clock most = Ans.none_ := by
        unfold LogV.since
        rw [if_pos (.inr hcl)]
      rw [hans]
      go_enter Try.func29, Try.ntmps29
      go_wp2
      refine bodyPost_ret (v := .tuple #[.agg #[.slice none 0 0, .slice none 0 0, .slice none 0 0, .int .i64 0, .bool false], .int .i64 12]) ?_ rfl ⟨_, rfl, zeroChO _ _, (Below.refl _ _).alloc (Nat.le_refl _) _⟩
      simp [results, Try.results29, go_sem, z0, z1, z2, z3, z4]
    · obtain ⟨ans, hans⟩ : ∃ ans, x.since kind frm clock most = ans := ⟨_, rfl⟩
      have hgo : loopP frm clock most (x.es.filter (takes kind frm clock)).length [] (x.es.filter (takes kind frm clock)) ⟨[], [], []⟩ frm = ans := by
        rw [← hans]
        unfold LogV.since
        rw [if_neg (by omega)]
      rw [hans]
      have HGO := Lib.hid hgo
      clear hgo hans z0 z1 z2 z3 z4
      have hstart : S1 w (w.alloc (.cells #[.slice none 0 0, .slice none 0 0, .slice none 0 0, .int .i64 0, .bool false] 46)) w.heap.size none (.slice none 0 0) ((x.es.take 0).filter (takes kind frm clock)) :=
        ⟨hZ, (by simp only [List.take_zero, List.filter_nil]; exact Sl.nil _ _ _), (Below.refl _ _).alloc (Nat.le_refl _) _, (fun _ h => by cases h), Nat.le_refl _⟩
      have HS := Lib.hid hstart
      clear hstart hZ
      obtain ⟨L, hL⟩ : ∃ L, x.es.length = L := ⟨_, rfl⟩
      rw [hL] at c1 hn HSL
      have HL := Lib.hid hL
      clear hL
      go_enter Try.func29, Try.ntmps29
      go_upto_block 0 with (fail)
      go_cut [12] (fun tv wx => ∃ th, Hid (S1 w wx w.heap.size th tv (x.es.filter (takes kind frm clock))))
      case first =>
        go_wp2_with fail
        go_loopw [12, 13] (fun tv i wr => ∃ (k : Nat) (th : Option Nat), k ≤ L ∧ i = .int .i64 k ∧ Hid (S1 w wr w.heap.size th tv ((x.es.take k).filter (takes kind frm clock)))) (fun _ i _ => L - (intOf i).toNat)
        case atStart => exact ⟨0, _, Nat.zero_le _, rfl, HS⟩
        case round =>
          obtain ⟨k, th, hk, rfl, HU⟩ := hrel
          have cg : wr.cell? ⟨g, 1, none⟩ = some (.slice A L cap) := (HU.out.below.cell (p := ⟨g, 1, none⟩) hgl).trans c1
          have hglr : g < wr.heap.size := Nat.lt_of_lt_of_le hgl HU.out.below.size
          by_cases hlt : k < L
          · have hke : k < x.es.length := by rw [HL.out]; exact hlt
            have hbel := HU.out.below
            have hwsz := hbel.size
            obtain ⟨ba, off, cap2, hh, hva, _, _, hbl, hat⟩ := HSL.out.at_ (by omega)
            injection hva with hva1 _ hva3
            subst hva1
            subst hva3
            have hrd : ∀ j, j < L * 4 → wr.cell? ⟨ba, off + j, none⟩ = (flatE x.es)[j]? := fun j hj => (hbel.cell (p := ⟨ba, off + j, none⟩) hbl).trans (hat j hj).1
            obtain ⟨f0, f1, f2, f3⟩ := flatE_at x.es k hke
            have d0 : wr.cell? ⟨ba, off + k * 4, none⟩ = some (.int .i64 x.es[k].m) := (hrd (k * 4) (by omega)).trans f0
            have d1 : wr.cell? ⟨ba, off + k * 4 + 1, none⟩ = some (.int .i64 x.es[k].k) := (hrd (k * 4 + 1) (by omega)).trans f1
            have d2 : wr.cell? ⟨ba, off + k * 4 + 2, none⟩ = some (.int .i64 x.es[k].i) := (hrd (k * 4 + 2) (by omega)).trans f2
            have d3 : wr.cell? ⟨ba, off + k * 4 + 3, none⟩ = some (.int .i64 x.es[k].h) := (hrd (k * 4 + 3) (by omega)).trans f3
            clear hrd hat f0 f1 f2 f3
            have hbl2 : ba < wr.heap.size := Nat.lt_of_lt_of_le hbl hwsz
            have hsucc := filter_take_succ (takes kind frm clock) x.es k hke
            have hlen : ((x.es.take k).filter (takes kind frm clock)).length ≤ 1099511627776 := by
              have := List.length_filter_le (takes kind frm clock) (x.es.take k)
              rw [List.length_take] at this
              omega
            have HSUCC := Lib.hid hsucc
            have HLEN := Lib.hid hlen
            clear hsucc hlen hbel
            generalize x.es[k] = y at d0 d1 d2 d3 HSUCC
            by_cases hk1 : y.k = kind
            · have hk1' : (y.k == kind) = true := by simpa using hk1
              by_cases hm1 : frm < y.m
              · by_cases hm2 : y.m ≤ clock
                · have htk : takes kind frm clock y = true := by simp [takes, hk1, hm1, hm2]
                  clear hk1
                  go_wp2_with (at_builtin; refine wpList_append_slX rfl _ _ 43 rfl Try.underlying43 hi hz0 hz1 hz2 rfl (by decide) (HU.out.sT.alloc _) rfl (wr.heap.size + 1) (by simp) 1 1 rfl rfl ?_ ?_ ?_ ?_)
                  · simp [Value.oneCell']
                  · have := HLEN.out
                    unfold maxLen
                    omega
                  · have := HLEN.out
                    omega
                  · intro v2 h2 w2 hs2 hc2 ho2
                    have q := HU.out.app hs2 hc2 (by simpa using ho2)
                    obtain ⟨A2, cap3, rfl, _, _⟩ := hs2.form
                    have hq := S1.took q HSUCC.out htk
                    have HQ := Lib.hid hq
                    clear q hq hs2 hc2 ho2
                    go_wp2
                    refine ⟨?_, by simp [intOf]; omega⟩
                    first | exact ⟨k + 1, _, by omega, by go_num, HQ⟩ | ((repeat apply Exists.intro); exact ⟨⟨k + 1, _, by omega, by go_num, HQ⟩, rfl⟩)
                · have HQ := fun o => Lib.hid (S1.skip HU.out HSUCC.out (by simp [takes, hm2]) o)
                  clear hk1
                  go_wp2
                  refine ⟨?_, by simp [intOf]; omega⟩
                  first | exact ⟨k + 1, _, by omega, by go_num, HQ _⟩ | ((repeat apply Exists.intro); exact ⟨⟨k + 1, _, by omega, by go_num, HQ _⟩, rfl⟩)
              · have HQ := fun o => Lib.hid (S1.skip HU.out HSUCC.out (by simp [takes, hm1]) o)
                clear hk1
                go_wp2
                refine ⟨?_, by simp [intOf]; omega⟩
                first | exact ⟨k + 1, _, by omega, by go_num, HQ _⟩ | ((repeat apply Exists.intro); exact ⟨⟨k + 1, _, by omega, by go_num, HQ _⟩, rfl⟩)
            · have hk1' : (y.k == kind) = false := by simpa using hk1
              have HQ := fun o => Lib.hid (S1.skip HU.out HSUCC.out (by simp [takes, hk1]) o)
              go_wp2
              refine ⟨?_, by simp [intOf]; omega⟩
              first | exact ⟨k + 1, _, by omega, by go_num, HQ _⟩ | ((repeat apply Exists.intro); exact ⟨⟨k + 1, _, by omega, by go_num, HQ _⟩, rfl⟩)
          · have hkL : k = L := by omega
            subst hkL
            have h1 := HU.out
            rw [List.take_of_length_le (by rw [HL.out]; exact Nat.le_refl _)] at h1
            have HQ := Lib.hid h1
            clear h1
            go_wp2_with fail
            go_meet
            exact ⟨_, HQ⟩
      case rest =>
        obtain ⟨th, HU⟩ := hcut
        have hTl : (x.es.filter (takes kind frm clock)).length ≤ 1099511627776 := by
          have := List.length_filter_le (takes kind frm clock) x.es
          have := HL.out
          omega
        have hgt : ∀ e ∈ x.es.filter (takes kind frm clock), frm < e.m := fun e he => by
          have h1 := (List.mem_filter.1 he).2
          simp only [takes, Bool.and_eq_true, decide_eq_true_eq] at h1
          exact h1.1.2
        have HGT := Lib.hid hgt
        clear hgt
        generalize x.es.filter (takes kind frm clock) = tk at HU HGO hTl HGT
        obtain ⟨A1, cap1, hv1, hTc, _⟩ := HU.out.sT.form
        clear HL HSL c1 c2 hgl hfl hcl HS
        obtain ⟨T, hT⟩ : ∃ T, tk.length = T := ⟨_, rfl⟩
        rw [hT] at hTl HGO hv1 hTc
        subst hv1
        have HT := Lib.hid hT
        clear hT
        have hFirst := fun W (q : S1 w W w.heap.size th (.slice A1 T cap1) tk) k (hk : k ≤ T) => refTell_any W (.slice A1 k cap1) k (tk.take k) (by rw [List.length_take, HT.out]; omega) (by omega) (Sl.firsts q.sT rfl (by rw [HT.out]; exact hk))
        have HFIRST := Lib.hid hFirst
        clear hFirst
        go_upto_block 2 with (fail)
        go_cut [15, 16] (fun tv sv wx => ∃ (k : Nat) (st : Int), k ≤ T ∧ tv = .int .i64 k ∧ sv = .int .i64 st ∧ Hid (S1 w wx w.heap.size th (.slice A1 T cap1) tk) ∧ Hid (ans = refAns tk clock k st))
        case first =>
          go_wp2_with fail
          go_loopw [15, 16] (fun tv sv wr => ∃ (k f : Nat) (st : Int), k ≤ T ∧ tv = .int .i64 k ∧ sv = .int .i64 st ∧ Hid (S1 w wr w.heap.size th (.slice A1 T cap1) tk) ∧ Hid ((k = 0 ∨ st ≠ frm) ∧ T ≤ k + f ∧ loopP frm clock most f (tk.take k) (tk.drop k) (told (tk.take k)) (if k = 0 then frm else st) = ans)) (fun tv _ _ => T - (intOf tv).toNat)
          case atStart => exact ⟨0, T, 0, Nat.zero_le _, rfl, rfl, HU, ⟨.inl rfl, by omega, by rw [if_pos rfl]; exact HGO.out⟩⟩
          case round =>
            obtain ⟨k, f, st, hk, rfl, rfl, HU, HF⟩ := hrel
            by_cases hlt : k < T
            · have hke : k < tk.length := by rw [HT.out]; exact hlt
              obtain ⟨ba, off, cap2, hh, hva, _, _, hbl, hat⟩ := HU.out.sT.at_ (by omega)
              injection hva with hva1 hva2 hva3
              clear hva2
              subst hva1
              subst hva3
              generalize hm : tk[k].m = m
              have HM := Lib.hid hm
              clear hm hat hbl
              go_upto_block 4 with (fail)
              go_cut [17] (fun i wx => ∃ (j : Nat), k < j ∧ j ≤ T ∧ i = .int .i64 j ∧ Hid (S1 w wx w.heap.size th (.slice (some ⟨ba, off, none⟩) T cap1) tk) ∧ Hid ((∀ i, k ≤ i → i < j → ∀ h : i < tk.length, tk[i].m = m) ∧ ∀ h : j < tk.length, tk[j].m ≠ m))
              case first =>
                go_wp2_with fail
                go_loopw [17] (fun i wx => ∃ (j : Nat), k ≤ j ∧ j ≤ T ∧ i = .int .i64 j ∧ Hid (S1 w wx w.heap.size th (.slice (some ⟨ba, off, none⟩) T cap1) tk) ∧ Hid (∀ i, k ≤ i → i < j → ∀ h : i < tk.length, tk[i].m = m)) (fun i _ => T - (intOf i).toNat)
                case atStart => exact ⟨k, Nat.le_refl _, hk, rfl, HU, Lib.hid (fun i h1 h2 => absurd h1 (by omega))⟩
                case round =>
                  obtain ⟨j, hkj, hjT, rfl, HV, HA⟩ := hrel
                  obtain ⟨hbl, hat⟩ := HV.out.sT.reads_at (by omega)
                  have d0 : wr.cell? ⟨ba, off + k * 4, none⟩ = some (.int .i64 m) := (hat (k * 4) (by omega)).trans ((flatE_at tk k hke).1.trans (by rw [HM.out]))
                  by_cases hjl : j < T
                  · have hje : j < tk.length := by rw [HT.out]; exact hjl
                    have e0 : wr.cell? ⟨ba, off + j * 4, none⟩ = some (.int .i64 tk[j].m) := (hat (j * 4) (by omega)).trans (flatE_at tk j hje).1
                    clear hat
                    by_cases hy : tk[j].m = m
                    · have hall : ∀ i, k ≤ i → i < j + 1 → ∀ h : i < tk.length, tk[i].m = m := fun i h1 h2 h => by
                        by_cases hij : i = j
                        · subst hij
                          exact hy
                        · exact HA.out i h1 (by omega) h
                      have HALL := Lib.hid hall
                      generalize tk[j].m = ym at e0 hy
                      have hy' : (ym == m) = true := by simpa using hy
                      clear hall hy
                      go_wp2_with fail
                      go_quiet (fail)
                      go_wp2
                      have HV2 := Lib.hid (HV.out.drewN nq)
                      refine ⟨?_, by simp [intOf]; omega⟩
                      first | exact ⟨j + 1, by omega, by omega, by go_num, HV2, HALL⟩ | ((repeat apply Exists.intro); exact ⟨⟨j + 1, by omega, by omega, by go_num, HV2, HALL⟩, rfl⟩)
                    · have hy' : (tk[j].m == m) = false := by simpa using hy
                      have hlast : ∀ h : j < tk.length, tk[j].m ≠ m := fun _ => hy
                      have HLAST := Lib.hid hlast
                      have hkj2 : k < j := by
                        rcases Nat.lt_or_ge k j with h1 | h1
                        · exact h1
                        · obtain rfl : k = j := by omega
                          exact absurd HM.out hy
                      clear hlast hy
                      generalize tk[j].m = ym at e0 hy'
                      go_wp2_with fail
                      go_quiet (fail)
                      go_wp2_with fail
                      go_meet
                      exact ⟨j, hkj2, hjT, rfl, HV.out.drewN nq, ⟨HA.out, HLAST.out⟩⟩
                  · have hjT' : j = T := by omega
                    subst hjT'
                    clear hat
                    go_wp2_with fail
                    go_quiet (fail)
                    go_wp2_with fail
                    go_meet
                    exact ⟨_, hlt, Nat.le_refl _, rfl, HV.out.drewN nq, ⟨HA.out, fun h => absurd h (by rw [HT.out]; omega)⟩⟩
              case rest =>
                obtain ⟨j, hkj, hjT, rfl, HV, HA⟩ := hcut
                obtain ⟨f, rfl⟩ : ∃ f', f = f' + 1 := ⟨f - 1, by have := HF.out.2.1; omega⟩
                have hjl : j ≤ tk.length := by rw [HT.out]; exact hjT
                have htell := HFIRST.out wc HV.out j hjT
                obtain ⟨hbl, hat⟩ := HV.out.sT.reads_at (by omega)
                have d0 : wc.cell? ⟨ba, off + k * 4, none⟩ = some (.int .i64 m) := (hat (k * 4) (by omega)).trans ((flatE_at tk k hke).1.trans (by rw [HM.out]))
                have hjc : j ≤ cap1 := by omega
                clear hat d0
                have hln : ∀ i, (lsOf (toldS (seenOf tk j)) i).length ≤ j := fun i => by
                  have h1 := toldF_len (seenOf tk j) (seenOf tk j).length (Nat.le_refl _) i
                  rw [toldF_all] at h1
                  have := seenOf_length tk j hjl
                  omega
                have n0 : (told (tk.take j)).made.length ≤ j := hln 0
                have n1 : (told (tk.take j)).turned.length ≤ j := hln 1
                have n2 : (told (tk.take j)).gone.length ≤ j := hln 2
                have hsz : ((told (tk.take j)).size : Int) = ((told (tk.take j)).made.length : Int) + ((told (tk.take j)).turned.length : Int) + ((told (tk.take j)).gone.length : Int) := by
                  unfold Told.size
                  omega
                have ww1 : IntKind.i64.wrap (((told (tk.take j)).made.length : Int) + ((told (tk.take j)).turned.length : Int)) = ((told (tk.take j)).made.length : Int) + ((told (tk.take j)).turned.length : Int) := IntWalk.i64_in _ (by omega)
                have ww2 : IntKind.i64.wrap (((told (tk.take j)).made.length : Int) + ((told (tk.take j)).turned.length : Int) + ((told (tk.take j)).gone.length : Int)) = ((told (tk.take j)).made.length : Int) + ((told (tk.take j)).turned.length : Int) + ((told (tk.take j)).gone.length : Int) := IntWalk.i64_in _ (by omega)
                have hmf : m ≠ frm := by
                  have h1 := HGT.out tk[k] (List.getElem_mem hke)
                  rw [HM.out] at h1
                  omega
                have hsame : ∀ i, k ≤ i → (h : i < j) → (tk[i]'(by omega)).m = m := fun i h1 h2 => HA.out.1 i h1 h2 (by omega)
                have hnextP : ¬ (0 < most ∧ most < ((told (tk.take j)).size : Int)) → (j = 0 ∨ m ≠ frm) ∧ T ≤ j + f ∧ loopP frm clock most f (tk.take j) (tk.drop j) (told (tk.take j)) (if j = 0 then frm else m) = ans := fun hno => by
                  have h1 := HF.out.2.2
                  rw [loopP_step frm clock most f tk k j _ _ m hkj hjl hsame HA.out.2, if_neg (show ¬ (0 < most ∧ most < ((toldS (seenOf tk j)).size : Int)) from hno)] at h1
                  refine ⟨.inr hmf, by have := HF.out.2.1; omega, ?_⟩
                  rw [if_neg (by omega)]
                  exact h1
                have hover := fun ho => refAns_over frm clock most f tk k j st m ans hkj hjl hsame HA.out.2 HF.out.1 HF.out.2.2 ho
                rw [hsz] at hnextP hover
                have HNX := Lib.hid hnextP
                have HOV := Lib.hid hover
                clear hnextP hover hsame hmf hsz hln hjl
                by_cases hmo : 1 ≤ most
                · by_cases hov : most < ((told (tk.take j)).made.length : Int) + ((told (tk.take j)).turned.length : Int) + ((told (tk.take j)).gone.length : Int)
                  · have HANS := Lib.hid (HOV.out ⟨by omega, hov⟩)
                    go_wp2_with (go_at_call 47; refine htell.mono ?_; rintro e w2 ⟨c, rfl, hch, hb⟩; obtain ⟨A0, B1, B2, p0, p1, p2, cv, hh2, rfl, k0, k1, k2, hsl, hown⟩ := hch.form; have HQ := Lib.hid (HV.out.later hb); obtain ⟨hbl2, hat2⟩ := HQ.out.sT.reads_at (by omega); have d2 : w2.cell? ⟨ba, off + k * 4, none⟩ = some (.int .i64 m) := (hat2 (k * 4) (by omega)).trans ((flatE_at tk k hke).1.trans (by rw [HM.out])); clear hb hch htell hsl hown k0 k1 k2 hat2)
                    go_meet
                    exact ⟨k, st, hk, rfl, rfl, HQ.out.alloc _, HANS⟩
                  · have HNEXT := Lib.hid (HNX.out (by omega))
                    go_wp2_with (go_at_call 47; refine htell.mono ?_; rintro e w2 ⟨c, rfl, hch, hb⟩; obtain ⟨A0, B1, B2, p0, p1, p2, cv, hh2, rfl, k0, k1, k2, hsl, hown⟩ := hch.form; have HQ := Lib.hid (HV.out.later hb); obtain ⟨hbl2, hat2⟩ := HQ.out.sT.reads_at (by omega); have d2 : w2.cell? ⟨ba, off + k * 4, none⟩ = some (.int .i64 m) := (hat2 (k * 4) (by omega)).trans ((flatE_at tk k hke).1.trans (by rw [HM.out])); clear hb hch htell hsl hown k0 k1 k2 hat2)
                    have HQ2 := fun o => Lib.hid (HQ.out.alloc o)
                    refine ⟨?_, by simp [intOf]; omega⟩
                    first | exact ⟨j, f, m, hjT, by go_num, rfl, HQ2 _, HNEXT⟩ | ((repeat apply Exists.intro); exact ⟨⟨j, f, m, hjT, by go_num, rfl, HQ2 _, HNEXT⟩, rfl⟩)
                · have HNEXT := Lib.hid (HNX.out (by omega))
                  go_wp2_with (go_at_call 47; refine htell.mono ?_; rintro e w2 ⟨c, rfl, hch, hb⟩; obtain ⟨A0, B1, B2, p0, p1, p2, cv, hh2, rfl, k0, k1, k2, hsl, hown⟩ := hch.form; have HQ := Lib.hid (HV.out.later hb); obtain ⟨hbl2, hat2⟩ := HQ.out.sT.reads_at (by omega); have d2 : w2.cell? ⟨ba, off + k * 4, none⟩ = some (.int .i64 m) := (hat2 (k * 4) (by omega)).trans ((flatE_at tk k hke).1.trans (by rw [HM.out])); clear hb hch htell hsl hown k0 k1 k2 hat2)
                  have HQ2 := fun o => Lib.hid (HQ.out.alloc o)
                  refine ⟨?_, by simp [intOf]; omega⟩
                  first | exact ⟨j, f, m, hjT, by go_num, rfl, HQ2 _, HNEXT⟩ | ((repeat apply Exists.intro); exact ⟨⟨j, f, m, hjT, by go_num, rfl, HQ2 _, HNEXT⟩, rfl⟩)
            · have hkT : k = T := by omega
              subst hkT
              have hend := refAns_end frm clock most f tk k st ans HT.out.symm HF.out.2.2
              have HEND := Lib.hid hend
              clear hend
              go_wp2_with fail
              go_meet
              exact ⟨k, st, Nat.le_refl _, rfl, rfl, HU, HEND⟩
        case rest =>
          obtain ⟨k, st, hk, rfl, rfl, HV, HANS⟩ := hcut
          have hkc : k ≤ cap1 := by omega
          by_cases h0 : k = 0
          · subst h0
            by_cases hT0 : 0 < T
            · have hend : ans = Ans.none_ := by
                rw [HANS.out, refAns, if_pos ⟨rfl, by rw [HT.out]; exact hT0⟩]
              have HEND := Lib.hid hend
              clear hend
              obtain ⟨r0, r1, r2, r3, r4, rf0, rf1, rf2, rf3, rf4, rl⟩ := HV.out.cells
              go_wp2
              have hb := ((((HV.out.below.setCell (p := ⟨w.heap.size, 0, none⟩) (Nat.le_refl _) (.slice none 0 0)).setCell (p := ⟨w.heap.size, 1, none⟩) (Nat.le_refl _) (.slice none 0 0)).setCell (p := ⟨w.heap.size, 2, none⟩) (Nat.le_refl _) (.slice none 0 0)).setCell (p := ⟨w.heap.size, 3, none⟩) (Nat.le_refl _) (.int .i64 0)).setCell (p := ⟨w.heap.size, 4, none⟩) (Nat.le_refl _) (.bool false)
              have q3 := st5_blk (u0 := .slice none 0 0) (u1 := .slice none 0 0) (u2 := .slice none 0 0) (u3 := .int .i64 0) (u4 := .bool false) HV.out.bR
              unfold st5 at q3
              generalize ((((wc.setCell ⟨w.heap.size, 0, none⟩ (.slice none 0 0)).setCell ⟨w.heap.size, 1, none⟩ (.slice none 0 0)).setCell ⟨w.heap.size, 2, none⟩ (.slice none 0 0)).setCell ⟨w.heap.size, 3, none⟩ (.int .i64 0)).setCell ⟨w.heap.size, 4, none⟩ (.bool false) = WF at hb q3 ⊢
              have s0 : WF.cell? ⟨w.heap.size, 0, none⟩ = some (.slice none 0 0) := q3.cell 0
              have s1 : WF.cell? ⟨w.heap.size, 1, none⟩ = some (.slice none 0 0) := q3.cell 1
              have s2 : WF.cell? ⟨w.heap.size, 2, none⟩ = some (.slice none 0 0) := q3.cell 2
              have s3 : WF.cell? ⟨w.heap.size, 3, none⟩ = some (.int .i64 0) := q3.cell 3
              have s4 : WF.cell? ⟨w.heap.size, 4, none⟩ = some (.bool false) := q3.cell 4
              refine bodyPost_ret (v := .tuple #[.agg #[.slice none 0 0, .slice none 0 0, .slice none 0 0, .int .i64 0, .bool false], .int .i64 12]) ?_ rfl ?_
              · simp [results, Try.results29, go_sem, s0, s1, s2, s3, s4]
              · rw [HEND.out]
                exact ⟨_, rfl, zeroChO _ _, hb⟩
            · obtain rfl : T = 0 := by omega
              have hend : ans = ⟨told [], clock, false, 0⟩ := by
                rw [HANS.out, refAns, if_neg (by rw [HT.out]; omega), if_neg (by rw [HT.out]; omega)]
                simp [HT.out]
              have HEND := Lib.hid hend
              clear hend
              have htell := HFIRST.out wc HV.out 0 hk
              rw [List.take_zero] at htell
              go_wp2_with (go_at_call 47; refine htell.mono ?_; rintro e w2 ⟨c, rfl, hch, hb⟩; obtain ⟨A0, B1, B2, p0, p1, p2, cv, hh2, rfl, k0, k1, k2, hsl, hown⟩ := hch.form; have HQ := Lib.hid (HV.out.later hb); have HSL := Lib.hid hsl; have HOWN := Lib.hid (fun i x hx => Nat.le_trans HV.out.below.size (hown i x hx)); have HK := Lib.hid (And.intro k0 (And.intro k1 k2)); clear hb hch htell hsl hown k0 k1 k2; obtain ⟨r0, r1, r2, r3, r4, rf0, rf1, rf2, rf3, rf4, rl⟩ := HQ.out.cells)
              have hF := S1.fin (st := clock) (more := false) HQ.out HSL.out HOWN.out HK.out (.cells #[.slice A0 (told []).made.length p0, .slice B1 (told []).turned.length p1, .slice B2 (told []).gone.length p2, .int .i64 clock, .bool false] 46)
              unfold st5 at hF
              generalize (((((w2.setCell ⟨w.heap.size, 0, none⟩ (.slice A0 (told []).made.length p0)).setCell ⟨w.heap.size, 1, none⟩ (.slice B1 (told []).turned.length p1)).setCell ⟨w.heap.size, 2, none⟩ (.slice B2 (told []).gone.length p2)).setCell ⟨w.heap.size, 3, none⟩ (.int .i64 clock)).setCell ⟨w.heap.size, 4, none⟩ (.bool false)).alloc (.cells #[.slice A0 (told []).made.length p0, .slice B1 (told []).turned.length p1, .slice B2 (told []).gone.length p2, .int .i64 clock, .bool false] 46) = WF at hF ⊢
              obtain ⟨q1, q2, q3⟩ := hF
              have s0 : WF.cell? ⟨w.heap.size, 0, none⟩ = some (.slice A0 (told []).made.length p0) := q3.cell 0
              have s1 : WF.cell? ⟨w.heap.size, 1, none⟩ = some (.slice B1 (told []).turned.length p1) := q3.cell 1
              have s2 : WF.cell? ⟨w.heap.size, 2, none⟩ = some (.slice B2 (told []).gone.length p2) := q3.cell 2
              have s3 : WF.cell? ⟨w.heap.size, 3, none⟩ = some (.int .i64 clock) := q3.cell 3
              have s4 : WF.cell? ⟨w.heap.size, 4, none⟩ = some (.bool false) := q3.cell 4
              refine bodyPost_ret (v := .tuple #[.agg #[.slice A0 (told []).made.length p0, .slice B1 (told []).turned.length p1, .slice B2 (told []).gone.length p2, .int .i64 clock, .bool false], .int .i64 0]) ?_ rfl ?_
              · simp [results, Try.results29, go_sem, s0, s1, s2, s3, s4]
              · rw [HEND.out]
                exact ⟨_, rfl, q1, q2⟩
          · have hk0 : ((k : Int) == 0) = false := by
              rw [beq_eq_false_iff_ne]
              omega
            have htell := HFIRST.out wc HV.out k hk
            by_cases hkT : k < T
            · have hend : ans = ⟨told (tk.take k), st, true, 0⟩ := by
                rw [HANS.out, refAns, if_neg (fun hh => h0 hh.1), if_pos (by rw [HT.out]; exact hkT)]
                simp [HT.out, hkT]
              have HEND := Lib.hid hend
              clear hend
              go_wp2_with (go_at_call 47; refine htell.mono ?_; rintro e w2 ⟨c, rfl, hch, hb⟩; obtain ⟨A0, B1, B2, p0, p1, p2, cv, hh2, rfl, k0, k1, k2, hsl, hown⟩ := hch.form; have HQ := Lib.hid (HV.out.later hb); have HSL := Lib.hid hsl; have HOWN := Lib.hid (fun i x hx => Nat.le_trans HV.out.below.size (hown i x hx)); have HK := Lib.hid (And.intro k0 (And.intro k1 k2)); clear hb hch htell hsl hown k0 k1 k2; obtain ⟨r0, r1, r2, r3, r4, rf0, rf1, rf2, rf3, rf4, rl⟩ := HQ.out.cells)
              have hF := S1.fin (st := st) (more := true) HQ.out HSL.out HOWN.out HK.out (.cells #[.slice A0 (told (tk.take k)).made.length p0, .slice B1 (told (tk.take k)).turned.length p1, .slice B2 (told (tk.take k)).gone.length p2, .int .i64 st, .bool true] 46)
              unfold st5 at hF
              generalize (((((w2.setCell ⟨w.heap.size, 0, none⟩ (.slice A0 (told (tk.take k)).made.length p0)).setCell ⟨w.heap.size, 1, none⟩ (.slice B1 (told (tk.take k)).turned.length p1)).setCell ⟨w.heap.size, 2, none⟩ (.slice B2 (told (tk.take k)).gone.length p2)).setCell ⟨w.heap.size, 3, none⟩ (.int .i64 st)).setCell ⟨w.heap.size, 4, none⟩ (.bool true)).alloc (.cells #[.slice A0 (told (tk.take k)).made.length p0, .slice B1 (told (tk.take k)).turned.length p1, .slice B2 (told (tk.take k)).gone.length p2, .int .i64 st, .bool true] 46) = WF at hF ⊢
              obtain ⟨q1, q2, q3⟩ := hF
              have s0 : WF.cell? ⟨w.heap.size, 0, none⟩ = some (.slice A0 (told (tk.take k)).made.length p0) := q3.cell 0
              have s1 : WF.cell? ⟨w.heap.size, 1, none⟩ = some (.slice B1 (told (tk.take k)).turned.length p1) := q3.cell 1
              have s2 : WF.cell? ⟨w.heap.size, 2, none⟩ = some (.slice B2 (told (tk.take k)).gone.length p2) := q3.cell 2
              have s3 : WF.cell? ⟨w.heap.size, 3, none⟩ = some (.int .i64 st) := q3.cell 3
              have s4 : WF.cell? ⟨w.heap.size, 4, none⟩ = some (.bool true) := q3.cell 4
              refine bodyPost_ret (v := .tuple #[.agg #[.slice A0 (told (tk.take k)).made.length p0, .slice B1 (told (tk.take k)).turned.length p1, .slice B2 (told (tk.take k)).gone.length p2, .int .i64 st, .bool true], .int .i64 0]) ?_ rfl ?_
              · simp [results, Try.results29, go_sem, s0, s1, s2, s3, s4]
              · rw [HEND.out]
                exact ⟨_, rfl, q1, q2⟩
            · have hend : ans = ⟨told (tk.take k), clock, false, 0⟩ := by
                rw [HANS.out, refAns, if_neg (fun hh => h0 hh.1), if_neg (by rw [HT.out]; exact hkT)]
                simp [HT.out, hkT]
              have HEND := Lib.hid hend
              clear hend
              go_wp2_with (go_at_call 47; refine htell.mono ?_; rintro e w2 ⟨c, rfl, hch, hb⟩; obtain ⟨A0, B1, B2, p0, p1, p2, cv, hh2, rfl, k0, k1, k2, hsl, hown⟩ := hch.form; have HQ := Lib.hid (HV.out.later hb); have HSL := Lib.hid hsl; have HOWN := Lib.hid (fun i x hx => Nat.le_trans HV.out.below.size (hown i x hx)); have HK := Lib.hid (And.intro k0 (And.intro k1 k2)); clear hb hch htell hsl hown k0 k1 k2; obtain ⟨r0, r1, r2, r3, r4, rf0, rf1, rf2, rf3, rf4, rl⟩ := HQ.out.cells)
              have hF := S1.fin (st := clock) (more := false) HQ.out HSL.out HOWN.out HK.out (.cells #[.slice A0 (told (tk.take k)).made.length p0, .slice B1 (told (tk.take k)).turned.length p1, .slice B2 (told (tk.take k)).gone.length p2, .int .i64 clock, .bool false] 46)
              unfold st5 at hF
              generalize (((((w2.setCell ⟨w.heap.size, 0, none⟩ (.slice A0 (told (tk.take k)).made.length p0)).setCell ⟨w.heap.size, 1, none⟩ (.slice B1 (told (tk.take k)).turned.length p1)).setCell ⟨w.heap.size, 2, none⟩ (.slice B2 (told (tk.take k)).gone.length p2)).setCell ⟨w.heap.size, 3, none⟩ (.int .i64 clock)).setCell ⟨w.heap.size, 4, none⟩ (.bool false)).alloc (.cells #[.slice A0 (told (tk.take k)).made.length p0, .slice B1 (told (tk.take k)).turned.length p1, .slice B2 (told (tk.take k)).gone.length p2, .int .i64 clock, .bool false] 46) = WF at hF ⊢
              obtain ⟨q1, q2, q3⟩ := hF
              have s0 : WF.cell? ⟨w.heap.size, 0, none⟩ = some (.slice A0 (told (tk.take k)).made.length p0) := q3.cell 0
              have s1 : WF.cell? ⟨w.heap.size, 1, none⟩ = some (.slice B1 (told (tk.take k)).turned.length p1) := q3.cell 1
              have s2 : WF.cell? ⟨w.heap.size, 2, none⟩ = some (.slice B2 (told (tk.take k)).gone.length p2) := q3.cell 2
              have s3 : WF.cell? ⟨w.heap.size, 3, none⟩ = some (.int .i64 clock) := q3.cell 3
              have s4 : WF.cell? ⟨w.heap.size, 4, none⟩ = some (.bool false) := q3.cell 4
              refine bodyPost_ret (v := .tuple #[.agg #[.slice A0 (told (tk.take k)).made.length p0, .slice B1 (told (tk.take k)).turned.length p1, .slice B2 (told (tk.take k)).gone.length p2, .int .i64 clock, .bool false], .int .i64 0]) ?_ rfl ?_
              · simp [results, Try.results29, go_sem, s0, s1, s2, s3, s4]
              · rw [HEND.out]
                exact ⟨_, rfl, q1, q2⟩

end Go.Proofs.Ytkgpflobbmagaaa
