/-
  The walk of seq.Text: numbers as a text; nothing that was there turns.
-/
import Derived.Test.YtogmdfjgedekgaaDoorSeqTextW
import Derived.Test.YtogmdfjgedekgaaDoorShelf
namespace Go.Proofs.YtogmdfjgedekgaaDoor
open Go.RowKit Go.Lib
attribute [local go_sem ↓] Go.wp_at_zero Go.wp_at_succ

theorem Tryd.infoStr : (Tryd.prog.info? 9).map (fun i => (i.zero, i.size, i.bytes)) = some (some (.string ⟨#[]⟩), 1, 16) := by kernel_rfl

set_option maxRecDepth 100000 in
set_option maxHeartbeats 8000000 in
theorem text_any (w : World) (v : Value) (n : Nat) (l : List Int) (hn : l.length = n) (hr : RdS w [] 1 v n (intV l)) (hnb : n ≤ 1000) (hb : ∀ x ∈ l, x ≤ 9223372036854775807) (ht : Tens w) :
    Calls Tryd.prog 20 #[v] w fun e w' => e = .returned (.string ⟨(textL l).toArray⟩) ∧ Below w.heap.size w w' := by
  obtain ⟨i0, hi, hz0, hz1, hz2⟩ := info_parts Tryd.infoRange
  obtain ⟨j0, hi', hy0, hy1, hy2⟩ := info_parts Tryd.infoStr
  obtain ⟨A, cap, rfl, _, hcap⟩ := hr.form
  have HR := Lib.hid hr
  have HN := Lib.hid hn
  have HBB := Lib.hid hb
  have HT := Lib.hid ht
  obtain ⟨ans, hans⟩ : ∃ ans, textL l = ans := ⟨_, rfl⟩
  rw [hans]
  have HANS := Lib.hid hans
  clear hr hn hb ht hans
  go_enter Tryd.func20, Tryd.ntmps20
  go_wp2_with fail
  go_loopw [3, 4, 14] (fun o lv iv wr => ∃ (k : Nat) (h : Option Nat) (rows : List Rg) (last : Int), k ≤ n ∧ iv = .int .i64 k ∧ lv = .int .i64 last ∧ Hid (TSt w wr l k o h rows last)) (fun _ _ iv _ => n - (intOf iv).toNat)
  case atStart => exact ⟨0, none, [], 0, Nat.zero_le _, rfl, rfl, Lib.hid (TSt.start w l)⟩
  case round =>
    obtain ⟨k, h, rows, last, hk, rfl, rfl, HQ⟩ := hrel
    by_cases hlt : k < n
    · have hkl : k < l.length := by rw [HN.out]; exact hlt
      obtain ⟨ba, offa, ca', hva, _, _, hbla, _, hca⟩ := HR.out.at_ (by omega)
      injection hva with hva1 hva2 hva3
      subst hva1
      clear hva2 hva3
      have d0 : wr.cell? ⟨ba, offa + k, none⟩ = some (.int .i64 l[k]) := ((HQ.out.bel.cell (p := ⟨ba, offa + k, none⟩) hbla).trans (hca _ (by omega))).trans (intV_at l k hkl)
      have hxb := HBB.out l[k] (List.getElem_mem hkl)
      obtain ⟨x, hx⟩ : ∃ x, l[k] = x := ⟨_, rfl⟩
      rw [hx] at d0 hxb
      have HX := Lib.hid hx
      obtain ⟨hl0, hl1⟩ := HQ.out.lst
      clear hca hx
      by_cases hle : x ≤ last
      · have HQ2 := Lib.hid (HQ.out.skip (hk := hkl) HX.out hle)
        go_wp2
        refine ⟨?_, by simp [intOf]; omega⟩
        first | exact ⟨k + 1, _, _, _, by omega, by go_num, rfl, HQ2⟩ | ((repeat apply Exists.intro); exact ⟨⟨k + 1, _, _, _, by omega, by go_num, rfl, HQ2⟩, rfl⟩)
      · have HNEW := fun v' h' w' hj hs hc ho => HQ.out.new (hk := hkl) (v' := v') (h' := h') (w' := w') HX.out hle hxb hj hs hc ho
        have hlen := HQ.out.len
        rcases List.eq_nil_or_concat rows with rfl | ⟨s, t, rfl⟩
        · have hsl : Sl wr 35 2 u3 h 0 (flatR []) := HQ.out.sl
          obtain ⟨A3, cap3, rfl, _, _⟩ := hsl.form
          have HSL := Lib.hid hsl
          clear hsl
          go_wp2_with (at_builtin; refine wpList_append_sl rfl _ _ 24 rfl Tryd.underlying24 hi hz0 hz1 hz2 rfl (by decide) HSL.out rfl 1 1 rfl rfl ?_ ?_ ?_ ?_)
          any_goals (first | (simp [Value.oneCell']; done) | (unfold maxLen; omega) | omega)
          · intro v' h' w' r1 r2 r3
            have HQ2 := Lib.hid (HNEW v' h' w' (by simp) (by simpa using r1) r2 r3)
            clear r1 r2 r3 HNEW
            go_wp2
            refine ⟨?_, by simp [intOf]; omega⟩
            first | exact ⟨k + 1, _, _, _, by omega, by go_num, rfl, HQ2⟩ | ((repeat apply Exists.intro); exact ⟨⟨k + 1, _, _, _, by omega, by go_num, rfl, HQ2⟩, rfl⟩)
        · rw [List.concat_eq_append] at HQ HNEW hlen
          have hsl := HQ.out.sl
          obtain ⟨p, hp⟩ : ∃ p, s.length = p := ⟨_, rfl⟩
          have hl1' : (s ++ [t]).length = p + 1 := by simp [hp]
          rw [hl1'] at hsl hlen HNEW
          obtain ⟨b, off, cap3, hh, rfl, _, _, hblt, hat⟩ := hsl.at_ (by omega)
          have c1 : wr.cell? ⟨b, off + p * 2 + 1, none⟩ = some (.int .i64 t.2) := by
            have h1 := (hat (p * 2 + 1) (by omega)).1
            have h2 := (flatR_at (s ++ [t]) p (by omega)).2
            have h3 : (s ++ [t])[p]'(by omega) = t := by
              subst hp
              simp
            rw [h3] at h2
            exact h1.trans h2
          have f1 : wr.frozen? ⟨b, off + p * 2 + 1, none⟩ = false := (hat (p * 2 + 1) (by omega)).2
          have HSL := Lib.hid hsl
          have HP := Lib.hid hp
          have HH := Lib.hid hh
          have hj0 : (0 : Int) ≤ (p : Int) := by omega
          clear hsl hat hp hl1' hh
          by_cases hj : t.2 = x - 1
          · have HQ2 : Hid (TSt w (wr.setCell ⟨b, off + p * 2 + 1, none⟩ (.int .i64 x)) l (k + 1) (.slice (some ⟨b, off, none⟩) (p + 1) cap3) h (s ++ [(t.1, x)]) x) := by
              have hpp := HP.out
              subst hpp
              exact Lib.hid (HQ.out.join (hk := hkl) HX.out hle hxb hj HH.out)
            have hjb : (t.2 == x - 1) = true := by simpa using hj
            have HJ := Lib.hid hj
            clear hj HNEW
            generalize t.2 = t2 at c1 hjb
            go_wp2
            refine ⟨?_, by simp [intOf]; omega⟩
            first | exact ⟨k + 1, _, _, _, by omega, by go_num, rfl, HQ2⟩ | ((repeat apply Exists.intro); exact ⟨⟨k + 1, _, _, _, by omega, by go_num, rfl, HQ2⟩, rfl⟩)
          · have hjb : (t.2 == x - 1) = false := by simpa using hj
            have HJ := Lib.hid (show ∀ s' t', s ++ [t] = s' ++ [t'] → ¬ t'.2 = x - 1 from fun s' t' he => by
              have := List.append_inj_right' he rfl
              injection this with this
              rw [← this]
              exact hj)
            clear hj
            generalize t.2 = t2 at c1 hjb
            go_wp2_with (at_builtin; refine wpList_append_sl rfl _ _ 24 rfl Tryd.underlying24 hi hz0 hz1 hz2 rfl (by decide) HSL.out rfl 1 1 rfl rfl ?_ ?_ ?_ ?_)
            any_goals (first | (simp [Value.oneCell']; done) | (unfold maxLen; omega) | omega)
            · intro v' h' w' r1 r2 r3
              have HQ2 := Lib.hid (HNEW v' h' w' HJ.out (by simpa using r1) r2 r3)
              clear r1 r2 r3 HNEW
              go_wp2
              refine ⟨?_, by simp [intOf]; omega⟩
              first | exact ⟨k + 1, _, _, _, by omega, by go_num, rfl, HQ2⟩ | ((repeat apply Exists.intro); exact ⟨⟨k + 1, _, _, _, by omega, by go_num, rfl, HQ2⟩, rfl⟩)
    · have hkn : k = n := by omega
      subst hkn
      have hrows : tRows l = rows := by
        have hf := HQ.out.fold
        rw [List.take_of_length_le (by rw [HN.out]; exact Nat.le_refl _)] at hf
        unfold tRows
        rw [hf]
      have HANS2 := Lib.hid (show join (rows.map rowT) [44] = ans by rw [← hrows]; exact HANS.out)
      clear hrows HANS
      obtain ⟨m, hm⟩ : ∃ m, rows.length = m := ⟨_, rfl⟩
      have hsl := HQ.out.sl
      rw [hm] at hsl
      obtain ⟨A3, cap3, rfl, _, hcap3⟩ := hsl.form
      have hmk : m ≤ 1000 := by have := HQ.out.len; omega
      have HSL := Lib.hid hsl
      have HM := Lib.hid hm
      have HT2 := Lib.hid (HT.out.below HQ.out.bel)
      clear hsl hm
      obtain ⟨wm, rfl⟩ : ∃ wm : World, wm = wr := ⟨_, rfl⟩
      go_wp2_with fail
      go_loopw [8, 52] (fun o iv wq => ∃ (j : Nat) (h2 : Option Nat), j ≤ m ∧ iv = .int .i64 j ∧ Hid (USt wm wq rows j o h2)) (fun _ iv _ => m - (intOf iv).toNat)
      case atStart => exact ⟨0, none, Nat.zero_le _, rfl, Lib.hid ⟨Sl.nil _ _ _, Below.refl _ _, by simp⟩⟩
      case round =>
        obtain ⟨j, h2, hj, rfl, HU⟩ := hrel
        by_cases hjm : j < m
        · have hjl : j < rows.length := by rw [HM.out]; exact hjm
          obtain ⟨bo, offo, co', hvo, _, _, hblo, _, hco⟩ := (HSL.out.reads [] (by simp)).at_ (by omega)
          injection hvo with hvo1 hvo2 hvo3
          subst hvo1
          clear hvo2 hvo3
          obtain ⟨g0, g1⟩ := flatR_at rows j hjl
          have e0 : wr.cell? ⟨bo, offo + j * 2, none⟩ = some (.int .i64 rows[j].1) := ((HU.out.bel.cell (p := ⟨bo, offo + j * 2, none⟩) hblo).trans (hco _ (by omega))).trans g0
          have e1 : wr.cell? ⟨bo, offo + j * 2 + 1, none⟩ = some (.int .i64 rows[j].2) := ((HU.out.bel.cell (p := ⟨bo, offo + j * 2 + 1, none⟩) hblo).trans (hco (j * 2 + 1) (by omega))).trans g1
          obtain ⟨ra, rb⟩ := HQ.out.rng rows[j] (List.getElem_mem hjl)
          obtain ⟨r, hrr⟩ : ∃ r, rows[j] = r := ⟨_, rfl⟩
          rw [hrr] at e0 e1 ra rb
          have HRR := Lib.hid hrr
          have HTJ := Lib.hid (HT2.out.below HU.out.bel)
          clear hco g0 g1 hrr
          have da := fun W (hb : Below wr.heap.size wr W) => digits_any r.1 ra W (HTJ.out.below hb)
          have db := fun W (hb : Below wr.heap.size wr W) => digits_any r.2 rb W (HTJ.out.below hb)
          have la := digL_le r.1 ra
          have lb := digL_le r.2 rb
          have hrt : rowT r = digL r.1 ++ (if r.1 < r.2 then 58 :: digL r.2 else []) := rfl
          by_cases hlt2 : r.1 < r.2
          · have hy : digL r.1 ++ (58 :: digL r.2) = rowT r := by rw [hrt, if_pos hlt2]
            clear hrt
            obtain ⟨x, y⟩ := r
            simp only at da db la lb hy e0 e1 hlt2 ra rb
            generalize digL x = D at da la hy
            generalize digL y = E at db lb hy
            have HY := Lib.hid hy
            have hbe : (ByteArray.mk D.toArray) ++ ((ByteArray.mk #[58]) ++ (ByteArray.mk E.toArray)) = ByteArray.mk (D ++ (58 :: E)).toArray := by
              have h1 : (ByteArray.mk #[58]) ++ (ByteArray.mk E.toArray) = ByteArray.mk (58 :: E).toArray := ByteArray.mk_append_mk [58] E
              rw [h1]
              exact ByteArray.mk_append_mk D (58 :: E)
            have HBE := Lib.hid hbe
            have hn1 : ¬ 9223372036854775807 < 1 + E.length := by omega
            have hn2 : ¬ 9223372036854775807 < D.length + (1 + E.length) := by omega
            clear hy hbe
            go_wp2_with (first
              | (go_at_call 31; (with_reducible refine (da _ ((Below.refl _ _).alloc (Nat.le_refl _) _)).mono ?_); rintro e w3 ⟨rfl, hb3⟩; have hbx := (Blk.new wr 35 #[.int .i64 x, .int .i64 y]).below hb3 (by simp); have x0 := hbx.cell 0; have x1 := hbx.cell 1; have HB3 := Lib.hid (((Below.refl wr.heap.size wr).alloc (Nat.le_refl _) (.cells #[.int .i64 x, .int .i64 y] 35)).trans (hb3.mono (by simp))); clear hb3 hbx da)
              | (go_at_call 31; (with_reducible refine (db _ HB3.out).mono ?_); rintro e w4 ⟨rfl, hb4⟩; have HB4 := Lib.hid (HB3.out.trans (hb4.mono HB3.out.size)); have HO4 := Lib.hid (HU.out.sl.below HB4.out); clear hb4 db)
              | (at_builtin; refine wpList_append_sl rfl _ _ 32 rfl Tryd.underlying32 hi' hy0 hy1 hy2 rfl (by decide) HO4.out rfl 1 1 rfl rfl ?_ ?_ ?_ ?_)
              | fail)
            any_goals (first | (simp [Value.oneCell']; done) | (unfold maxLen; omega) | omega)
            · intro v' h' w' r1 r2 r3
              rw [HBE.out] at r1
              have HUN := Lib.hid (HU.out.next (hk := hjl) HRR.out HB4.out HY.out (by simpa using r1) r2 r3)
              clear r1 r2 r3
              go_wp2
              refine ⟨?_, by simp [intOf]; omega⟩
              first | exact ⟨j + 1, _, by omega, by go_num, HUN⟩ | ((repeat apply Exists.intro); exact ⟨⟨j + 1, _, by omega, by go_num, HUN⟩, rfl⟩)
          · have hy : digL r.1 = rowT r := by rw [hrt, if_neg hlt2]; simp
            clear hrt db
            obtain ⟨x, y⟩ := r
            simp only at da la lb hy e0 e1 hlt2 ra rb
            generalize digL x = D at da la hy
            have HY := Lib.hid hy
            clear hy
            go_wp2_with (first
              | (go_at_call 31; (with_reducible refine (da _ ((Below.refl _ _).alloc (Nat.le_refl _) _)).mono ?_); rintro e w3 ⟨rfl, hb3⟩; have hbx := (Blk.new wr 35 #[.int .i64 x, .int .i64 y]).below hb3 (by simp); have x0 := hbx.cell 0; have x1 := hbx.cell 1; have HB3 := Lib.hid (((Below.refl wr.heap.size wr).alloc (Nat.le_refl _) (.cells #[.int .i64 x, .int .i64 y] 35)).trans (hb3.mono (by simp))); have HO4 := Lib.hid (HU.out.sl.below HB3.out); clear hb3 hbx da)
              | (at_builtin; refine wpList_append_sl rfl _ _ 32 rfl Tryd.underlying32 hi' hy0 hy1 hy2 rfl (by decide) HO4.out rfl 1 1 rfl rfl ?_ ?_ ?_ ?_)
              | fail)
            any_goals (first | (simp [Value.oneCell']; done) | (unfold maxLen; omega) | omega)
            · intro v' h' w' r1 r2 r3
              have HUN := Lib.hid (HU.out.next (hk := hjl) HRR.out HB3.out HY.out (by simpa using r1) r2 r3)
              clear r1 r2 r3
              go_wp2
              refine ⟨?_, by simp [intOf]; omega⟩
              first | exact ⟨j + 1, _, by omega, by go_num, HUN⟩ | ((repeat apply Exists.intro); exact ⟨⟨j + 1, _, by omega, by go_num, HUN⟩, rfl⟩)
        · have hjm2 : j = m := by omega
          subst hjm2
          have hsu := HU.out.sl
          rw [List.take_of_length_le (by rw [HM.out]; exact Nat.le_refl _)] at hsu
          by_cases hj0 : j = 0
          · subst hj0
            obtain rfl : rows = [] := List.eq_nil_of_length_eq_zero HM.out
            obtain ⟨A8, cap8, rfl, _, _⟩ := hsu.form
            have hjn := fun W => Tryd.strings_Join_none A8 cap8 ⟨#[44]⟩ W
            have HAN := Lib.hid (show ([] : List UInt8) = ans from HANS2.out)
            clear hsu HANS2
            go_wp2_with (first
              | (go_at_call 32; refine (hjn _).mono ?_; rintro e w4 ⟨rfl, rfl⟩; clear hjn)
              | fail)
            go_ret
            exact ⟨by rw [← HAN.out]; rfl, HQ.out.bel.trans (HU.out.bel.mono HQ.out.bel.size)⟩
          · obtain ⟨b8, off8, cap8, _, rfl, hc1, hc2, hb8, hat⟩ := hsu.at_ (by omega)
            have hxl : (rows.map fun r => ByteArray.mk (rowT r).toArray).length = j := by rw [List.length_map, HM.out]
            have hxm : (rows.map fun r => ByteArray.mk (rowT r).toArray).map (·.data.toList) = rows.map rowT := by
              rw [List.map_map]
              rfl
            have hjl : (join (rows.map rowT) [44]).length ≤ 44 * j := by
              have h1 := join_len (rows.map rowT) (fun x hx => by
                obtain ⟨r, hr, rfl⟩ := List.mem_map.1 hx
                obtain ⟨ra, rb⟩ := HQ.out.rng r hr
                exact rowT_len r ra rb)
              rw [List.length_map, HM.out] at h1
              exact h1
            have hjn := Tryd.strings_Join b8 off8 cap8 (rows.map fun r => ByteArray.mk (rowT r).toArray) ⟨#[44]⟩ wr (fun i x hx => by
              have hil : i < j := by
                have := (List.getElem?_eq_some_iff.1 hx).1
                omega
              have h1 := (hat i (by omega)).1
              rw [h1]
              simp only [strV, List.getElem?_map, Option.map_eq_some_iff] at hx ⊢
              obtain ⟨r, hr, rfl⟩ := hx
              exact ⟨rowT r, ⟨r, hr, rfl⟩, rfl⟩) hb8 (by omega) (by omega) (by rw [hxm]; show (join (rows.map rowT) [44]).length ≤ _; omega)
            rw [hxl, hxm] at hjn
            have hjn2 : Calls Tryd.prog 32 #[.slice (some ⟨b8, off8, none⟩) j cap8, .string ⟨#[44]⟩] wr fun e w' => e = .returned (.string ⟨ans.toArray⟩) ∧ Below wr.heap.size wr w' := by
              rw [← HANS2.out]
              exact hjn
            clear hsu HANS2 hjn hxl hxm hjl hat
            go_wp2_with (first
              | (go_at_call 32; refine hjn2.mono ?_; rintro e w4 ⟨rfl, hb4⟩; have HB4 := Lib.hid hb4; clear hjn2 hb4)
              | fail)
            go_ret
            exact ⟨rfl, (HQ.out.bel.trans (HU.out.bel.mono HQ.out.bel.size)).trans (HB4.out.mono (Nat.le_trans HQ.out.bel.size HU.out.bel.size))⟩

end Go.Proofs.YtogmdfjgedekgaaDoor
