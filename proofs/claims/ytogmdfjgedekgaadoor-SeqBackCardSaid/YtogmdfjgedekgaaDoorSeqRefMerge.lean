/-
  The walk of the reference's Merge: each range put into the list of those ahead of it; nothing that was there turns.
-/
import Derived.Test.YtogmdfjgedekgaaDoorSeqRefW
namespace Go.Proofs.YtogmdfjgedekgaaDoor
open Go.Shelf Go.RowKit Go.Lib Go.Sort
attribute [local go_sem ↓] Go.wp_at_zero Go.wp_at_succ

set_option maxRecDepth 100000 in
set_option maxHeartbeats 4000000 in
theorem refMerge_any (w : World) (v : Value) (n : Nat) (l : List Rg) (hn : l.length = n) (hr : RdS w [] 2 v n (flatR l)) (hnb : n ≤ 1099511627776) (hb : ∀ x ∈ l, 0 ≤ x.1 ∧ x.1 ≤ 9223372036854775807 ∧ x.2 ≤ 9223372036854775807) :
    Calls Tryd.prog 28 #[v] w fun e w' => ∃ v' h', e = .returned v' ∧ Sl w' 35 2 v' h' (rGo l).length (flatR (rGo l)) ∧ RowKit.Below w.heap.size w w' := by
  obtain ⟨i0, hi, hz0, hz1, hz2⟩ := info_parts Tryd.infoRange
  obtain ⟨A, cap, rfl, _, hcap⟩ := hr.form
  have HR := Lib.hid hr
  have HN := Lib.hid hn
  have HBB := Lib.hid hb
  clear hr hn hb
  go_enter Tryd.func28, Tryd.ntmps28
  go_wp2_with fail
  go_loopw [3, 4] (fun o i wr => ∃ (k : Nat) (h : Option Nat) (out : List Rg), k ≤ n ∧ i = .int .i64 k ∧ Hid (OSt w wr l k o h out)) (fun _ i _ => n - (intOf i).toNat)
  case atStart => exact ⟨0, none, [], Nat.zero_le _, rfl, Lib.hid OSt.start⟩
  case round =>
    obtain ⟨k, h, out, hk, rfl, HO⟩ := hrel
    by_cases hlt : k < n
    · have hkl : k < l.length := by rw [HN.out]; exact hlt
      obtain ⟨ba, offa, ca', hva, _, _, hbla, _, hca⟩ := HR.out.at_ (by omega)
      injection hva with hva1 hva2 hva3
      subst hva1
      clear hva2 hva3
      obtain ⟨f0, f1⟩ := flatR_at l k hkl
      have d0 : wr.cell? ⟨ba, offa + k * 2, none⟩ = some (.int .i64 l[k].1) := ((HO.out.bel.cell (p := ⟨ba, offa + k * 2, none⟩) hbla).trans (hca _ (by omega))).trans f0
      have d1 : wr.cell? ⟨ba, offa + k * 2 + 1, none⟩ = some (.int .i64 l[k].2) := ((HO.out.bel.cell (p := ⟨ba, offa + k * 2 + 1, none⟩) hbla).trans (hca (k * 2 + 1) (by omega))).trans f1
      have hbx := HBB.out l[k] (List.getElem_mem hkl)
      obtain ⟨y, hy⟩ : ∃ y, l[k] = y := ⟨_, rfl⟩
      rw [hy] at d0 d1 hbx
      obtain ⟨a0, b⟩ := y
      simp only at d0 d1 hbx
      obtain ⟨ha0, ha1, hb1⟩ := hbx
      obtain ⟨a, ha⟩ : ∃ a : Int, (if a0 < 1 then 1 else a0) = a := ⟨_, rfl⟩
      have hmx := fun ats ty W => run_max_int (P := Tryd.prog) ats ty a0 1 W
      rw [ha] at hmx
      have haa : 1 ≤ a ∧ a ≤ 9223372036854775807 := by rw [← ha]; split <;> omega
      have hmax : max a0 1 = a := by rw [← ha]; split <;> omega
      have HY := Lib.hid (And.intro hy hmax)
      clear hca f0 f1 hy ha hmax
      obtain ⟨haa1, haa2⟩ := haa
      by_cases hba : b < a
      · have HST := Lib.hid (HO.out.skip (hk := hkl) HY.out.1 HY.out.2 hba (.cells #[.int .i64 a, .int .i64 b] 35))
        go_wp2
        refine ⟨?_, by simp [intOf]; omega⟩
        first | exact ⟨k + 1, _, _, by omega, by go_num, HST⟩ | ((repeat apply Exists.intro); exact ⟨⟨k + 1, _, _, by omega, by go_num, HST⟩, rfl⟩)
      · obtain ⟨m, hm⟩ : ∃ m, out.length = m := ⟨_, rfl⟩
        have hs0 := HO.out.sl
        rw [hm] at hs0
        obtain ⟨Ao, capo, rfl, _, _⟩ := hs0.form
        have hmb : m ≤ 1099511627776 := by have := HO.out.len; omega
        have HS0 := Lib.hid hs0
        have HM := Lib.hid hm
        clear hs0 hm
        obtain ⟨wo, rfl⟩ : ∃ wo : World, wo = wr := ⟨_, rfl⟩
        have hblt : ba < wo.heap.size := Nat.lt_of_lt_of_le hbla HO.out.bel.size
        go_wp2_with fail
        go_loopw [6, 7, 8] (fun o p i wq => ∃ (j : Nat) (st : Ins) (h2 : Option Nat), j ≤ m ∧ i = .int .i64 j ∧ p = .bool st.put ∧ Hid (ISt wo wq wo.heap.size st o h2) ∧ Hid (JSt out j (a, b) st)) (fun _ _ i _ => m - (intOf i).toNat)
        case atStart => exact ⟨0, ⟨(a, b), [], false⟩, none, Nat.zero_le _, rfl, rfl, Lib.hid ⟨Blk.new _ _ _, Sl.nil _ _ _, (RowKit.Below.refl _ _).alloc (Nat.le_refl _) _, by simp⟩, Lib.hid (JSt.start haa1 (by omega) (by omega))⟩
        case round =>
          obtain ⟨j, st, h2, hj, rfl, rfl, HI, HJ⟩ := hrel
          by_cases hjm : j < m
          · have hjo : j < out.length := by rw [HM.out]; exact hjm
            obtain ⟨bo, offo, co', hvo, _, _, hblo, _, hco⟩ := (HS0.out.reads [] (by simp)).at_ (by omega)
            injection hvo with hvo1 hvo2 hvo3
            subst hvo1
            clear hvo2 hvo3
            obtain ⟨g0, g1⟩ := flatR_at out j hjo
            have e0 : wr.cell? ⟨bo, offo + j * 2, none⟩ = some (.int .i64 out[j].1) := ((HI.out.bel.cell (p := ⟨bo, offo + j * 2, none⟩) hblo).trans (hco _ (by omega))).trans g0
            have e1 : wr.cell? ⟨bo, offo + j * 2 + 1, none⟩ = some (.int .i64 out[j].2) := ((HI.out.bel.cell (p := ⟨bo, offo + j * 2 + 1, none⟩) hblo).trans (hco (j * 2 + 1) (by omega))).trans g1
            have hby := HO.out.rng out[j] (List.getElem_mem hjo)
            obtain ⟨y, hy⟩ : ∃ y, out[j] = y := ⟨_, rfl⟩
            rw [hy] at e0 e1 hby
            have HOY := Lib.hid hy
            clear hco g0 g1 hy
            have hx1 := HJ.out.x1
            have hx2 := HJ.out.x2
            have hnl : st.next.length ≤ j + 1 := by have := HJ.out.len; omega
            have k0 := HI.out.box.cell 0
            have k1 := HI.out.box.cell 1
            have hbl1 := HI.out.box.lt
            have hfz := HI.out.box.frozen 0
            have hfz1 := HI.out.box.frozen 1
            have HJS := fun st' he => Lib.hid (HJ.out.step (hj := hjo) HOY.out (st' := st') he hby)
            have HPU := fun w3 w' o' h' aa bb hb hr hc ho p => HI.out.push (w3 := w3) (w' := w') (o' := o') (h' := h') hb aa bb hr hc ho p
            have HSE := fun aa bb c => HI.out.set aa bb c (Nat.le_of_lt hbl1)
            obtain ⟨⟨x1, x2⟩, nx, pt⟩ := st
            obtain ⟨y1, y2⟩ := y
            simp only at e0 e1 hby hx1 hx2 hnl k0 k1 HJS HPU HSE
            obtain ⟨hy1, hy1', hy2⟩ := hby
            obtain ⟨hx1a, hx1b⟩ := hx1
            have HSL : Hid (∀ c, Sl (wr.alloc c) 35 2 u6 h2 nx.length (flatR nx)) := Lib.hid fun c => HI.out.sl.alloc c
            by_cases c1 : y2 < x1 - 1
            · have HJ1 := HJS ⟨(x1, x2), nx ++ [(y1, y2)], pt⟩ (by unfold iStep; rw [if_pos c1])
              clear HJS HSE
              go_wp2_with (at_builtin; refine wpList_append_slX rfl _ _ 24 rfl Tryd.underlying24 hi hz0 hz1 hz2 rfl (by decide) (HSL.out _) rfl (wr.heap.size + 1) (by simp) 1 1 rfl rfl ?_ ?_ ?_ ?_)
              · simp [Value.oneCell']
              · unfold maxLen
                omega
              · omega
              · intro v' h' w' r1 r2 r3
                have HI1 := Lib.hid (HPU _ _ _ _ _ _ ((RowKit.Below.refl _ _).alloc (Nat.le_refl _) _) (by simpa using r1) r2 (by simpa using r3) pt)
                clear r1 r2 r3 HPU
                go_wp2
                refine ⟨?_, by simp [intOf]; omega⟩
                first | exact ⟨j + 1, _, _, by omega, by go_num, rfl, HI1, HJ1⟩ | ((repeat apply Exists.intro); exact ⟨⟨j + 1, _, _, by omega, by go_num, rfl, HI1, HJ1⟩, rfl⟩)
            · by_cases c2 : x2 < y1 - 1
              · cases pt with
                | true =>
                  have HJ1 := HJS ⟨(x1, x2), nx ++ [(y1, y2)], true⟩ (by unfold iStep; rw [if_neg c1, if_pos c2]; rfl)
                  clear HJS HSE
                  go_wp2_with (at_builtin; refine wpList_append_slX rfl _ _ 24 rfl Tryd.underlying24 hi hz0 hz1 hz2 rfl (by decide) (HSL.out _) rfl (wr.heap.size + 1) (by simp) 1 1 rfl rfl ?_ ?_ ?_ ?_)
                  · simp [Value.oneCell']
                  · unfold maxLen
                    omega
                  · omega
                  · intro v' h' w' r1 r2 r3
                    have HI1 := Lib.hid (HPU _ _ _ _ _ _ ((RowKit.Below.refl _ _).alloc (Nat.le_refl _) _) (by simpa using r1) r2 (by simpa using r3) true)
                    clear r1 r2 r3 HPU
                    go_wp2
                    refine ⟨?_, by simp [intOf]; omega⟩
                    first | exact ⟨j + 1, _, _, by omega, by go_num, rfl, HI1, HJ1⟩ | ((repeat apply Exists.intro); exact ⟨⟨j + 1, _, _, by omega, by go_num, rfl, HI1, HJ1⟩, rfl⟩)
                | false =>
                  have HJ1 := HJS ⟨(x1, x2), nx ++ [(x1, x2)] ++ [(y1, y2)], true⟩ (by unfold iStep; rw [if_neg c1, if_pos c2]; rfl)
                  clear HJS HSE
                  go_wp2_with (at_builtin; refine wpList_append_slX rfl _ _ 24 rfl Tryd.underlying24 hi hz0 hz1 hz2 rfl (by decide) (HSL.out _) rfl (wr.heap.size + 1) (by simp) 1 1 rfl rfl ?_ ?_ ?_ ?_)
                  · simp [Value.oneCell']
                  · unfold maxLen
                    omega
                  · omega
                  · intro v' h' w' r1 r2 r3
                    have hIS := HPU _ _ _ _ _ _ ((RowKit.Below.refl _ _).alloc (Nat.le_refl _) _) (by simpa using r1) r2 (by simpa using r3) true
                    have hyb : Blk w' wr.heap.size 35 #[.int .i64 y1, .int .i64 y2] := (Blk.new wr _ _).chg r2 (fun hm => by
                      have := Sl.lt HI.out.sl wr.heap.size (by simpa using hm)
                      omega)
                    have m0 := hyb.cell 0
                    have m1 := hyb.cell 1
                    have HIS := Lib.hid hIS
                    have HSL2 := Lib.hid hIS.sl
                    clear r1 r2 r3 HPU hIS hyb
                    simp only [List.length_append, List.length_singleton] at HSL2
                    go_wp2_with (at_builtin; refine wpList_append_sl rfl _ _ 24 rfl Tryd.underlying24 hi hz0 hz1 hz2 rfl (by decide) HSL2.out rfl 1 1 rfl rfl ?_ ?_ ?_ ?_)
                    · simp [Value.oneCell']
                    · unfold maxLen
                      omega
                    · omega
                    · intro v3 h3 w3 r1 r2 r3
                      have HI1 := Lib.hid (HIS.out.push (RowKit.Below.refl _ _) y1 y2 (by simpa using r1) r2 (by simpa using r3) true)
                      clear r1 r2 r3
                      go_wp2
                      refine ⟨?_, by simp [intOf]; omega⟩
                      first | exact ⟨j + 1, _, _, by omega, by go_num, rfl, HI1, HJ1⟩ | ((repeat apply Exists.intro); exact ⟨⟨j + 1, _, _, by omega, by go_num, rfl, HI1, HJ1⟩, rfl⟩)
              · obtain ⟨lo, hlo⟩ : ∃ lo : Int, (if y1 < x1 then y1 else x1) = lo := ⟨_, rfl⟩
                obtain ⟨hi', hhi⟩ : ∃ hi' : Int, (if x2 < y2 then y2 else x2) = hi' := ⟨_, rfl⟩
                have hmx := fun ats ty W => run_max_int (P := Tryd.prog) ats ty x2 y2 W
                have hmn := fun ats ty W => run_min_int (P := Tryd.prog) ats ty x1 y1 W
                rw [hlo] at hmn
                rw [hhi] at hmx
                have hl2 : min x1 y1 = lo := by omega
                have hh2 : max x2 y2 = hi' := by omega
                have HJ1 := HJS ⟨(lo, hi'), nx, pt⟩ (by unfold iStep; rw [if_neg c1, if_neg c2, hl2, hh2])
                have HI1 := Lib.hid (HSE lo hi' (.cells #[.int .i64 y1, .int .i64 y2] 35))
                clear HJS HSE HPU hlo hhi hl2 hh2
                go_wp2
                refine ⟨?_, by simp [intOf]; omega⟩
                first | exact ⟨j + 1, _, _, by omega, by go_num, rfl, HI1, HJ1⟩ | ((repeat apply Exists.intro); exact ⟨⟨j + 1, _, _, by omega, by go_num, rfl, HI1, HJ1⟩, rfl⟩)
          · have hjm2 : j = m := by omega
            subst hjm2
            have hIS := HI.out
            have hJS := HJ.out
            have hrs : rStep out (a0, b) = iEnd st := by
              unfold rStep
              simp only [HY.out.2]
              rw [if_neg (by omega)]
              unfold iOut
              have := hJS.fold
              rw [List.take_of_length_le (by rw [HM.out]; exact Nat.le_refl _)] at this
              rw [this]
            have HRS := Lib.hid hrs
            have k0 := hIS.box.cell 0
            have k1 := hIS.box.cell 1
            have hnl : st.next.length ≤ j + 1 := by have := hJS.len; omega
            have HSL := Lib.hid hIS.sl
            clear hIS hJS hrs
            obtain ⟨⟨x1, x2⟩, nx, pt⟩ := st
            simp only at k0 k1 hnl
            cases pt with
            | true =>
              have HST := Lib.hid (HO.out.next (hk := hkl) HY.out.1 HRS.out HJ.out (by have := HM.out; omega) rfl HI.out.sl HI.out.bel)
              go_wp2
              refine ⟨?_, by simp [intOf]; omega⟩
              first | exact ⟨k + 1, _, _, by omega, by go_num, HST⟩ | ((repeat apply Exists.intro); exact ⟨⟨k + 1, _, _, by omega, by go_num, HST⟩, rfl⟩)
            | false =>
              go_wp2_with (at_builtin; refine wpList_append_sl rfl _ _ 24 rfl Tryd.underlying24 hi hz0 hz1 hz2 rfl (by decide) HSL.out rfl 1 1 rfl rfl ?_ ?_ ?_ ?_)
              · simp [Value.oneCell']
              · unfold maxLen
                omega
              · omega
              · intro v3 h3 w3 r1 r2 r3
                have HI1 := Lib.hid (HI.out.push (RowKit.Below.refl _ _) x1 x2 (by simpa using r1) r2 (by simpa using r3) true)
                have HST := Lib.hid (HO.out.next (hk := hkl) HY.out.1 HRS.out HJ.out (by have := HM.out; omega) rfl HI1.out.sl HI1.out.bel)
                clear r1 r2 r3
                go_wp2
                refine ⟨?_, by simp [intOf]; omega⟩
                first | exact ⟨k + 1, _, _, by omega, by go_num, HST⟩ | ((repeat apply Exists.intro); exact ⟨⟨k + 1, _, _, by omega, by go_num, HST⟩, rfl⟩)
    · have hkn : k = n := by omega
      subst hkn
      have hf := HO.out.fold
      rw [List.take_of_length_le (by rw [HN.out]; exact Nat.le_refl _)] at hf
      have hs := HO.out.sl
      have HF := Lib.hid (show rGo l = out from hf)
      have HS := Lib.hid hs
      clear hf hs
      go_wp2
      go_ret
      exact ⟨_, _, rfl, by rw [HF.out]; exact HS.out, HO.out.bel⟩

end Go.Proofs.YtogmdfjgedekgaaDoor
