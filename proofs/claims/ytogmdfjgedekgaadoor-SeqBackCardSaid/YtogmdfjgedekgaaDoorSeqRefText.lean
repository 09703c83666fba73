/-
  The walk of the reference's Text: numbers as a text; nothing that was there turns.
-/
import Derived.Test.YtogmdfjgedekgaaDoorSeqTextW
import Derived.Test.YtogmdfjgedekgaaDoorSeqText
import Derived.Deep.QuietTactic
import Derived.BigQuiet
import Derived.StillTailTactics
namespace Go.Proofs.YtogmdfjgedekgaaDoor
open Go.RowKit Go.Lib
attribute [local go_sem ↓] Go.wp_at_zero Go.wp_at_succ

theorem below_of_drewN' {w w' : World} {n : Nat} (h : Below (w.drewN n).heap.size (w.drewN n) w') : Below w.heap.size w w' := ⟨h.os, h.tape, h.output, h.size, h.block⟩

/-- What the second loop of the reference's Text keeps. -/
structure VSt (wm wq : World) (rows : List Rg) (k : Nat) (o : List UInt8) : Prop where
  out : o = join ((rows.take k).map rowT) [44]
  bel : Below wm.heap.size wm wq
  len : o.length ≤ 44 * k
theorem VSt.next {wm wq w' : World} {rows : List Rg} {k : Nat} {o o' : List UInt8} (q : VSt wm wq rows k o) (hk : k < rows.length) {r : Rg} (hr : rows[k] = r) (hb : Below wq.heap.size wq w') (hl : (rowT r).length ≤ 43)
    (ho : o' = (if k = 0 then rowT r else o ++ 44 :: rowT r)) : VSt wm w' rows (k + 1) o' := by
  refine ⟨?_, q.bel.trans (hb.mono q.bel.size), ?_⟩
  · rw [List.take_succ_eq_append_getElem hk, List.map_append, List.map_cons, List.map_nil, join_snoc, hr, ho, q.out]
    by_cases h0 : k = 0
    · subst h0
      simp
    · rw [if_neg h0, if_neg]
      · simp
      · intro h
        have h1 := congrArg List.length h
        rw [List.length_map, List.length_take, Nat.min_eq_left (by omega)] at h1
        exact h0 h1
  · have := q.len
    rw [ho]
    split
    · omega
    · simp
      omega

set_option maxRecDepth 100000 in
set_option maxHeartbeats 8000000 in
theorem refText_any (w : World) (v : Value) (n : Nat) (l : List Int) (hn : l.length = n) (hr : RdS w [] 1 v n (intV l)) (hnb : n ≤ 1000) (hb : ∀ x ∈ l, x ≤ 9223372036854775807) :
    Calls Tryd.prog 21 #[v] w fun e w' => e = .returned (.string ⟨(textL l).toArray⟩) ∧ Below w.heap.size w w' := by
  obtain ⟨i0, hi, hz0, hz1, hz2⟩ := info_parts Tryd.infoRange
  obtain ⟨A, cap, rfl, _, hcap⟩ := hr.form
  have HR := Lib.hid hr
  have HN := Lib.hid hn
  have HBB := Lib.hid hb
  obtain ⟨ans, hans⟩ : ∃ ans, textL l = ans := ⟨_, rfl⟩
  rw [hans]
  have HANS := Lib.hid hans
  clear hr hn hb hans
  go_enter Tryd.func21, Tryd.ntmps21
  go_wp2_with fail
  go_loopw [3, 4, 5] (fun o lv iv wr => ∃ (k : Nat) (h : Option Nat) (rows : List Rg) (last : Int), k ≤ n ∧ iv = .int .i64 k ∧ lv = .int .i64 last ∧ Hid (TSt w wr l k o h rows last)) (fun _ _ iv _ => n - (intOf iv).toNat)
  case atStart => exact ⟨0, none, [], 0, Nat.zero_le _, rfl, rfl, Lib.hid (TSt.start w l)⟩
  case round =>
    obtain ⟨k, h, rows, last, hk, rfl, rfl, HQ⟩ := hrel
    by_cases hlt : k < n
    · have hkl : k < l.length := by rw [HN.out]; exact hlt
      obtain ⟨ba, offa, ca', hva, _, _, hbla, _, hca⟩ := HR.out.at_ (by omega)
      injection hva with hva1 hva2 hva3
      subst hva1
      clear hva2 hva3
      have d0 : wr.cell? ⟨ba, offa + k, none⟩ = some (.int .i64 l[k]) := ((HQ.out.bel.cell (p := ⟨ba, offa + k, none⟩) hbla).trans (hca _ (by omega))).trans (intV_at l k hkl)
      have hxb := HBB.out l[k] (List.getElem_mem hkl)
      obtain ⟨x, hx⟩ : ∃ x, l[k] = x := ⟨_, rfl⟩
      rw [hx] at d0 hxb
      have HX := Lib.hid hx
      obtain ⟨hl0, hl1⟩ := HQ.out.lst
      clear hca hx
      by_cases hle : x ≤ last
      · have HQ2 := Lib.hid (HQ.out.skip (hk := hkl) HX.out hle)
        go_wp2
        refine ⟨?_, by simp [intOf]; omega⟩
        first | exact ⟨k + 1, _, _, _, by omega, by go_num, rfl, HQ2⟩ | ((repeat apply Exists.intro); exact ⟨⟨k + 1, _, _, _, by omega, by go_num, rfl, HQ2⟩, rfl⟩)
      · have HNEW := fun v' h' w' hj hs hc ho => HQ.out.new (hk := hkl) (v' := v') (h' := h') (w' := w') HX.out hle hxb hj hs hc ho
        have hlen := HQ.out.len
        rcases List.eq_nil_or_concat rows with rfl | ⟨s, t, rfl⟩
        · have hsl : Sl wr 35 2 u3 h 0 (flatR []) := HQ.out.sl
          obtain ⟨A3, cap3, rfl, _, _⟩ := hsl.form
          have HSL := Lib.hid hsl
          clear hsl
          have HSD := Lib.hid (fun c => Sl.heap (w' := (wr.alloc c).drew) (HSL.out.alloc c) rfl)
          go_wp2_with fail
          go_region_law (refine step_append_sl _ (by rfl) (.tmp 42) (.tmp 52) _ (by rfl) Tryd.underlying24 hi hz0 hz1 hz2 rfl (by omega) (HSD.out _) (by simp [Act.eval]) wr.heap.size #[.int .i64 x, .int .i64 x] (e' := 35) (fr := (0, 0)) (heap_alloc_new wr _) 1 1 (by simp [Act.eval]) (by rfl) (by simp [Value.oneCell']) (by unfold maxLen; omega) (by omega) ?_; intro v' h' w' r1 r2 r3)
          all_goals
            have r2' : Chg h.toList (wr.alloc (.cells #[.int .i64 x, .int .i64 x] 35)) w' := ⟨r2.os, r2.tape, r2.output, r2.size, r2.block⟩
            have hc : Chg h.toList wr w' := ⟨r2'.os, r2'.tape, r2'.output, Nat.le_trans (by simp) r2'.size, fun i hi hn => (r2'.block i (by simp; omega) hn).trans (Below.heap_alloc wr _ i hi)⟩
            have hbw : Below w.heap.size wr w' := ⟨hc.os, hc.tape, hc.output, hc.size, fun i hi => hc.block i (Nat.lt_of_lt_of_le hi HQ.out.bel.size) (fun hm => by have := HQ.out.own i (by simpa using hm); omega)⟩
            have d1 : w'.cell? ⟨ba, offa + k, none⟩ = some (.int .i64 x) := (hbw.cell (p := ⟨ba, offa + k, none⟩) hbla).trans d0
            have ho : h' = h ∨ ∃ g, h' = some g ∧ wr.heap.size ≤ g := r3.imp id fun ⟨g, h1, h2⟩ => ⟨g, h1, Nat.le_trans (by simp) (show (wr.alloc (.cells #[.int .i64 x, .int .i64 x] 35)).heap.size ≤ g from h2)⟩
            have HQ2 := Lib.hid (HNEW v' h' w' (by simp) (by simpa using r1) hc ho)
            clear r1 r2 r3 r2' ho hc hbw HNEW
            go_wp2
            refine ⟨?_, by simp [intOf]; omega⟩
            first | exact ⟨k + 1, _, _, _, by omega, by go_num, rfl, HQ2⟩ | ((repeat apply Exists.intro); exact ⟨⟨k + 1, _, _, _, by omega, by go_num, rfl, HQ2⟩, rfl⟩)
        · rw [List.concat_eq_append] at HQ HNEW hlen
          have hsl := HQ.out.sl
          obtain ⟨p, hp⟩ : ∃ p, s.length = p := ⟨_, rfl⟩
          have hl1' : (s ++ [t]).length = p + 1 := by simp [hp]
          rw [hl1'] at hsl hlen HNEW
          obtain ⟨b, off, cap3, hh, rfl, _, _, hblt, hat⟩ := hsl.at_ (by omega)
          have c1 : wr.cell? ⟨b, off + p * 2 + 1, none⟩ = some (.int .i64 t.2) := by
            have h1 := (hat (p * 2 + 1) (by omega)).1
            have h2 := (flatR_at (s ++ [t]) p (by omega)).2
            have h3 : (s ++ [t])[p]'(by omega) = t := by
              subst hp
              simp
            rw [h3] at h2
            exact h1.trans h2
          have f1 : wr.frozen? ⟨b, off + p * 2 + 1, none⟩ = false := (hat (p * 2 + 1) (by omega)).2
          have HSL := Lib.hid hsl
          have HP := Lib.hid hp
          have HH := Lib.hid hh
          have hj0 : (0 : Int) ≤ (p : Int) := by omega
          clear hsl hat hp hl1' hh
          have hinv : t.2 = last := HQ.out.inv s t rfl
          have hne : ba ≠ b := by have := HQ.out.own b HH.out; omega
          by_cases hj : x = last + 1
          · have HQ2 : Hid (TSt w (wr.setCell ⟨b, off + p * 2 + 1, none⟩ (.int .i64 x)) l (k + 1) (.slice (some ⟨b, off, none⟩) (p + 1) cap3) h (s ++ [(t.1, x)]) x) := by
              have hpp := HP.out
              subst hpp
              exact Lib.hid (HQ.out.join (hk := hkl) HX.out hle hxb (by omega) HH.out)
            have hjb : (x == last + 1) = true := by simpa using hj
            have d1 : (wr.setCell ⟨b, off + p * 2 + 1, none⟩ (.int .i64 x)).cell? ⟨ba, offa + k, none⟩ = some (.int .i64 x) := (World.cell?_setCell_other wr _ _ _ (fun e => by injection e with e; exact hne e.symm)).trans d0
            clear hj HNEW hinv hne
            generalize t.2 = t2 at c1
            go_wp2
            refine ⟨?_, by simp [intOf]; omega⟩
            first | exact ⟨k + 1, _, _, _, by omega, by go_num, rfl, HQ2⟩ | ((repeat apply Exists.intro); exact ⟨⟨k + 1, _, _, _, by omega, by go_num, rfl, HQ2⟩, rfl⟩)
          · have hjb : (x == last + 1) = false := by simpa using hj
            have HJ := Lib.hid (show ∀ s' t', s ++ [t] = s' ++ [t'] → ¬ t'.2 = x - 1 from fun s' t' he => by
              have := List.append_inj_right' he rfl
              injection this with this
              rw [← this]
              omega)
            clear hj hinv hne c1 f1
            have HSD := Lib.hid (fun c => Sl.heap (w' := (wr.alloc c).drew) (HSL.out.alloc c) rfl)
            go_wp2_with fail
            go_region_law (refine step_append_sl _ (by rfl) (.tmp 42) (.tmp 52) _ (by rfl) Tryd.underlying24 hi hz0 hz1 hz2 rfl (by omega) (HSD.out _) (by simp [Act.eval]) wr.heap.size #[.int .i64 x, .int .i64 x] (e' := 35) (fr := (0, 0)) (heap_alloc_new wr _) 1 1 (by simp [Act.eval]) (by rfl) (by simp [Value.oneCell']) (by unfold maxLen; omega) (by omega) ?_; intro v' h' w' r1 r2 r3)
            all_goals
              have r2' : Chg h.toList (wr.alloc (.cells #[.int .i64 x, .int .i64 x] 35)) w' := ⟨r2.os, r2.tape, r2.output, r2.size, r2.block⟩
              have hc : Chg h.toList wr w' := ⟨r2'.os, r2'.tape, r2'.output, Nat.le_trans (by simp) r2'.size, fun i hi hn => (r2'.block i (by simp; omega) hn).trans (Below.heap_alloc wr _ i hi)⟩
              have hbw : Below w.heap.size wr w' := ⟨hc.os, hc.tape, hc.output, hc.size, fun i hi => hc.block i (Nat.lt_of_lt_of_le hi HQ.out.bel.size) (fun hm => by have := HQ.out.own i (by simpa using hm); omega)⟩
              have d1 : w'.cell? ⟨ba, offa + k, none⟩ = some (.int .i64 x) := (hbw.cell (p := ⟨ba, offa + k, none⟩) hbla).trans d0
              have ho : h' = h ∨ ∃ g, h' = some g ∧ wr.heap.size ≤ g := r3.imp id fun ⟨g, h1, h2⟩ => ⟨g, h1, Nat.le_trans (by simp) (show (wr.alloc (.cells #[.int .i64 x, .int .i64 x] 35)).heap.size ≤ g from h2)⟩
              have HQ2 := Lib.hid (HNEW v' h' w' HJ.out (by simpa using r1) hc ho)
              clear r1 r2 r3 r2' ho hc hbw HNEW
              go_wp2
              refine ⟨?_, by simp [intOf]; omega⟩
              first | exact ⟨k + 1, _, _, _, by omega, by go_num, rfl, HQ2⟩ | ((repeat apply Exists.intro); exact ⟨⟨k + 1, _, _, _, by omega, by go_num, rfl, HQ2⟩, rfl⟩)
    · have hkn : k = n := by omega
      subst hkn
      have hrows : tRows l = rows := by
        have hf := HQ.out.fold
        rw [List.take_of_length_le (by rw [HN.out]; exact Nat.le_refl _)] at hf
        unfold tRows
        rw [hf]
      have HANS2 := Lib.hid (show join (rows.map rowT) [44] = ans by rw [← hrows]; exact HANS.out)
      clear hrows HANS
      obtain ⟨m, hm⟩ : ∃ m, rows.length = m := ⟨_, rfl⟩
      have hsl := HQ.out.sl
      rw [hm] at hsl
      obtain ⟨A3, cap3, rfl, _, hcap3⟩ := hsl.form
      have hmk : m ≤ 1000 := by have := HQ.out.len; omega
      have HSL := Lib.hid hsl
      have HM := Lib.hid hm
      clear hsl hm
      obtain ⟨wm, rfl⟩ : ∃ wm : World, wm = wr := ⟨_, rfl⟩
      have hap : ∀ a b : List UInt8, ByteArray.mk a.toArray ++ ByteArray.mk b.toArray = ByteArray.mk (a ++ b).toArray := fun a b => ByteArray.mk_append_mk a b
      go_wp2_with fail
      go_loopw [6, 7] (fun sv iv wq => ∃ (j : Nat) (o : List UInt8), j ≤ m ∧ iv = .int .i64 j ∧ sv = .string ⟨o.toArray⟩ ∧ Hid (VSt wm wq rows j o)) (fun _ iv _ => m - (intOf iv).toNat)
      case atStart => exact ⟨0, [], Nat.zero_le _, rfl, rfl, Lib.hid ⟨rfl, Below.refl _ _, Nat.le_refl _⟩⟩
      case round =>
        obtain ⟨j, o, hj, rfl, rfl, HV⟩ := hrel
        by_cases hjm : j < m
        · have hjl : j < rows.length := by rw [HM.out]; exact hjm
          obtain ⟨bo, offo, co', hvo, _, _, hblo, _, hco⟩ := (HSL.out.reads [] (by simp)).at_ (by omega)
          injection hvo with hvo1 hvo2 hvo3
          subst hvo1
          clear hvo2 hvo3
          obtain ⟨g0, g1⟩ := flatR_at rows j hjl
          have e0 : wr.cell? ⟨bo, offo + j * 2, none⟩ = some (.int .i64 rows[j].1) := ((HV.out.bel.cell (p := ⟨bo, offo + j * 2, none⟩) hblo).trans (hco _ (by omega))).trans g0
          have e1 : wr.cell? ⟨bo, offo + j * 2 + 1, none⟩ = some (.int .i64 rows[j].2) := ((HV.out.bel.cell (p := ⟨bo, offo + j * 2 + 1, none⟩) hblo).trans (hco (j * 2 + 1) (by omega))).trans g1
          obtain ⟨ra, rb⟩ := HQ.out.rng rows[j] (List.getElem_mem hjl)
          obtain ⟨r, hrr⟩ : ∃ r, rows[j] = r := ⟨_, rfl⟩
          rw [hrr] at e0 e1 ra rb
          have HRR := Lib.hid hrr
          clear hco g0 g1 hrr
          have hbl2 : bo < wr.heap.size := Nat.lt_of_lt_of_le hblo HV.out.bel.size
          have da := fun W => refDigits_any r.1 ra W
          have db := fun W => refDigits_any r.2 rb W
          have la := digL_le r.1 ra
          have lb := digL_le r.2 rb
          have lo := HV.out.len
          have hrt : rowT r = digL r.1 ++ (if r.1 < r.2 then 58 :: digL r.2 else []) := rfl
          have e0w := fun w3 (hb3 : Below wr.heap.size wr w3) => (hb3.cell (p := ⟨bo, offo + j * 2, none⟩) hbl2).trans e0
          have e1w := fun w3 (hb3 : Below wr.heap.size wr w3) => (hb3.cell (p := ⟨bo, offo + j * 2 + 1, none⟩) hbl2).trans e1
          obtain ⟨x, y⟩ := r
          simp only at da db la lb hrt e0 e1 ra rb e0w e1w
          by_cases hlt2 : x < y
          · by_cases hj0 : j = 0
            · obtain rfl : o = [] := by have := HV.out.len; rw [hj0] at this; exact List.eq_nil_of_length_eq_zero (by omega)
              have hdj : decide (0 < j) = false := decide_eq_false (by omega)
              have HJ0 := Lib.hid hj0
              clear hj0
              have hy : digL x ++ (58 :: digL y) = rowT (x, y) := by rw [hrt, if_pos hlt2]
              clear hrt
              generalize digL x = D at da la hy
              generalize digL y = E at db lb hy
              have HY := Lib.hid hy
              clear hy
              go_wp2_with (first
                | (go_at_call 33; (with_reducible refine (da _).mono ?_); rintro e w3 ⟨rfl, hb3⟩; have x0 := e0w w3 hb3; have x1 := e1w w3 hb3; have HB3 := Lib.hid hb3; clear hb3 da)
                | fail)
              go_quiet (fail)
              go_wp2_with (first
                | (go_at_call 33; (with_reducible refine (db _).mono ?_); rintro e w4 ⟨rfl, hb4⟩; have HB4 := Lib.hid (HB3.out.trans ((below_of_drewN' hb4).mono HB3.out.size)); clear hb4 db)
                | fail)
              have HVN := Lib.hid (HV.out.next hjl HRR.out HB4.out (rowT_len _ ra rb) (o' := D ++ 58 :: E) (by rw [if_pos HJ0.out, ← HY.out]))
              refine ⟨?_, by simp [intOf]; omega⟩
              first | exact ⟨j + 1, _, by omega, by go_num, rfl, HVN⟩ | ((repeat apply Exists.intro); exact ⟨⟨j + 1, _, by omega, by go_num, rfl, HVN⟩, rfl⟩)
            · have hj1 : (0 : Int) < (j : Int) := by omega
              have hdj : decide (0 < j) = true := decide_eq_true (by omega)
              have hy : digL x ++ (58 :: digL y) = rowT (x, y) := by rw [hrt, if_pos hlt2]
              clear hrt
              generalize digL x = D at da la hy
              generalize digL y = E at db lb hy
              have HY := Lib.hid hy
              clear hy
              go_wp2_with (first
                | (go_at_call 33; (with_reducible refine (da _).mono ?_); rintro e w3 ⟨rfl, hb3⟩; have x0 := e0w w3 hb3; have x1 := e1w w3 hb3; have HB3 := Lib.hid hb3; clear hb3 da)
                | fail)
              go_quiet (fail)
              go_wp2_with (first
                | (go_at_call 33; (with_reducible refine (db _).mono ?_); rintro e w4 ⟨rfl, hb4⟩; have HB4 := Lib.hid (HB3.out.trans ((below_of_drewN' hb4).mono HB3.out.size)); clear hb4 db)
                | fail)
              have HVN := Lib.hid (HV.out.next hjl HRR.out HB4.out (rowT_len _ ra rb) (o' := o ++ 44 :: (D ++ 58 :: E)) (by rw [if_neg hj0, ← HY.out]))
              refine ⟨?_, by simp [intOf]; omega⟩
              first | exact ⟨j + 1, _, by omega, by go_num, rfl, HVN⟩ | ((repeat apply Exists.intro); exact ⟨⟨j + 1, _, by omega, by go_num, rfl, HVN⟩, rfl⟩)
          · by_cases hj0 : j = 0
            · obtain rfl : o = [] := by have := HV.out.len; rw [hj0] at this; exact List.eq_nil_of_length_eq_zero (by omega)
              have hdj : decide (0 < j) = false := decide_eq_false (by omega)
              have HJ0 := Lib.hid hj0
              clear hj0
              have hy : digL x = rowT (x, y) := by rw [hrt, if_neg hlt2]; simp
              clear hrt
              generalize digL x = D at da la hy
              have HY := Lib.hid hy
              clear hy
              go_wp2_with (first
                | (go_at_call 33; (with_reducible refine (da _).mono ?_); rintro e w3 ⟨rfl, hb3⟩; have x0 := e0w w3 hb3; have x1 := e1w w3 hb3; have HB3 := Lib.hid hb3; clear hb3 da)
                | fail)
              go_quiet (fail)
              go_wp2_with fail
              have HVN := fun c => Lib.hid (HV.out.next hjl HRR.out (below_drewN HB3.out c) (rowT_len _ ra rb) (o' := D) (by rw [if_pos HJ0.out, ← HY.out]))
              refine ⟨?_, by simp [intOf]; omega⟩
              first | exact ⟨j + 1, _, by omega, by go_num, rfl, HVN _⟩ | ((repeat apply Exists.intro); exact ⟨⟨j + 1, _, by omega, by go_num, rfl, HVN _⟩, rfl⟩)
            · have hj1 : (0 : Int) < (j : Int) := by omega
              have hdj : decide (0 < j) = true := decide_eq_true (by omega)
              have hy : digL x = rowT (x, y) := by rw [hrt, if_neg hlt2]; simp
              clear hrt
              generalize digL x = D at da la hy
              have HY := Lib.hid hy
              clear hy
              go_wp2_with (first
                | (go_at_call 33; (with_reducible refine (da _).mono ?_); rintro e w3 ⟨rfl, hb3⟩; have x0 := e0w w3 hb3; have x1 := e1w w3 hb3; have HB3 := Lib.hid hb3; clear hb3 da)
                | fail)
              go_quiet (fail)
              go_wp2_with fail
              have HVN := fun c => Lib.hid (HV.out.next hjl HRR.out (below_drewN HB3.out c) (rowT_len _ ra rb) (o' := o ++ 44 :: D) (by rw [if_neg hj0, ← HY.out]))
              refine ⟨?_, by simp [intOf]; omega⟩
              first | exact ⟨j + 1, _, by omega, by go_num, rfl, HVN _⟩ | ((repeat apply Exists.intro); exact ⟨⟨j + 1, _, by omega, by go_num, rfl, HVN _⟩, rfl⟩)
        · have hjm2 : j = m := by omega
          subst hjm2
          have ho := HV.out.out
          rw [List.take_of_length_le (by rw [HM.out]; exact Nat.le_refl _), HANS2.out] at ho
          subst ho
          go_wp2
          go_ret
          exact ⟨rfl, HQ.out.bel.trans (HV.out.bel.mono HQ.out.bel.size)⟩

end Go.Proofs.YtogmdfjgedekgaaDoor
