/-
  The walk of the reference's Merge: each range put into the list of those ahead of it; nothing that was there turns.
  The walk of pillarboxref1.Index from the first place on, at a text that is not empty: where it begins first; the world is as it was.
  The walk of the reference's Read: the set that a text tells, or why there is none; nothing that was there turns.
  Rows of bytes in memory; a string turned into bytes; the walk of pillarboxref1.Fold.
  The walks of the reference's Digits and of text.Digits: the digits of a number; nothing that was there turns.
  Plain laws of the text of numbers: the ranges that rising numbers make, the text of ranges. No condition.
  Plain laws of sets as texts: the program's reading and the reference's are one; the numbers of digits. No condition.
-/
import Derived.Test.YtnfabgbidkddhaaGreatDoorGRE
import Derived.Test.YtnfabgbidkddhaaGreatDoorGCA
import Derived.Test.YtnfabgbidkddhaaGreatDoorGRA
import Derived.Test.YtnfabgbidkddhaaGreatDoorGCB
import Derived.Test.YtnfabgbidkddhaaGreatDoorProg
import Derived.Lib.IndexLaws
import Derived.WalkSpells
import Derived.Lib.ConvBytes
import Derived.Lib.ItoaLen
import Derived.Deep.RegionWith
import Derived.Deep.DrawnRows
import Derived.Lib.JoinLaws
import Derived.Lib.Join
namespace Go.Proofs.YtnfabgbidkddhaaGreatDoor
open Go.Shelf Go.RowKit Go.Lib Go.Sort
attribute [local go_sem ↓] Go.wp_at_zero Go.wp_at_succ

set_option maxRecDepth 100000 in
set_option maxHeartbeats 4000000 in
theorem refMerge_any (w : World) (v : Value) (n : Nat) (l : List Rg) (hn : l.length = n) (hr : RdS w [] 2 v n (flatR l)) (hnb : n ≤ 1099511627776) (hb : ∀ x ∈ l, 0 ≤ x.1 ∧ x.1 ≤ 9223372036854775807 ∧ x.2 ≤ 9223372036854775807) :
    Calls Tryz.prog 82 #[v] w fun e w' => ∃ v' h', e = .returned v' ∧ Sl w' 75 2 v' h' (rGo l).length (flatR (rGo l)) ∧ RowKit.Below w.heap.size w w' := by
  obtain ⟨i0, hi, hz0, hz1, hz2⟩ := info_parts Tryz.infoRange
  obtain ⟨A, cap, rfl, _, hcap⟩ := hr.form
  have HR := Lib.hid hr
  have HN := Lib.hid hn
  have HBB := Lib.hid hb
  clear hr hn hb
  go_enter Tryz.func82, Tryz.ntmps82
  go_wp2_with fail
  go_loopw [3, 4] (fun o i wr => ∃ (k : Nat) (h : Option Nat) (out : List Rg), k ≤ n ∧ i = .int .i64 k ∧ Hid (OSt w wr l k o h out)) (fun _ i _ => n - (intOf i).toNat)
  case atStart => exact ⟨0, none, [], Nat.zero_le _, rfl, Lib.hid OSt.start⟩
  case round =>
    obtain ⟨k, h, out, hk, rfl, HO⟩ := hrel
    by_cases hlt : k < n
    · have hkl : k < l.length := by rw [HN.out]; exact hlt
      obtain ⟨ba, offa, ca', hva, _, _, hbla, _, hca⟩ := HR.out.at_ (by omega)
      injection hva with hva1 hva2 hva3
      subst hva1
      clear hva2 hva3
      obtain ⟨f0, f1⟩ := flatR_at l k hkl
      have d0 : wr.cell? ⟨ba, offa + k * 2, none⟩ = some (.int .i64 l[k].1) := ((HO.out.bel.cell (p := ⟨ba, offa + k * 2, none⟩) hbla).trans (hca _ (by omega))).trans f0
      have d1 : wr.cell? ⟨ba, offa + k * 2 + 1, none⟩ = some (.int .i64 l[k].2) := ((HO.out.bel.cell (p := ⟨ba, offa + k * 2 + 1, none⟩) hbla).trans (hca (k * 2 + 1) (by omega))).trans f1
      have hbx := HBB.out l[k] (List.getElem_mem hkl)
      obtain ⟨y, hy⟩ : ∃ y, l[k] = y := ⟨_, rfl⟩
      rw [hy] at d0 d1 hbx
      obtain ⟨a0, b⟩ := y
      simp only at d0 d1 hbx
      obtain ⟨ha0, ha1, hb1⟩ := hbx
      obtain ⟨a, ha⟩ : ∃ a : Int, (if a0 < 1 then 1 else a0) = a := ⟨_, rfl⟩
      have hmx := fun ats ty W => run_max_int (P := Tryz.prog) ats ty a0 1 W
      rw [ha] at hmx
      have haa : 1 ≤ a ∧ a ≤ 9223372036854775807 := by rw [← ha]; split <;> omega
      have hmax : max a0 1 = a := by rw [← ha]; split <;> omega
      have HY := Lib.hid (And.intro hy hmax)
      clear hca f0 f1 hy ha hmax
      obtain ⟨haa1, haa2⟩ := haa
      by_cases hba : b < a
      · have HST := Lib.hid (HO.out.skip (hk := hkl) HY.out.1 HY.out.2 hba (.cells #[.int .i64 a, .int .i64 b] 75))
        go_wp2
        refine ⟨?_, by simp [intOf]; omega⟩
        first | exact ⟨k + 1, _, _, by omega, by go_num, HST⟩ | ((repeat apply Exists.intro); exact ⟨⟨k + 1, _, _, by omega, by go_num, HST⟩, rfl⟩)
      · obtain ⟨m, hm⟩ : ∃ m, out.length = m := ⟨_, rfl⟩
        have hs0 := HO.out.sl
        rw [hm] at hs0
        obtain ⟨Ao, capo, rfl, _, _⟩ := hs0.form
        have hmb : m ≤ 1099511627776 := by have := HO.out.len; omega
        have HS0 := Lib.hid hs0
        have HM := Lib.hid hm
        clear hs0 hm
        obtain ⟨wo, rfl⟩ : ∃ wo : World, wo = wr := ⟨_, rfl⟩
        have hblt : ba < wo.heap.size := Nat.lt_of_lt_of_le hbla HO.out.bel.size
        go_wp2_with fail
        go_loopw [6, 7, 8] (fun o p i wq => ∃ (j : Nat) (st : Ins) (h2 : Option Nat), j ≤ m ∧ i = .int .i64 j ∧ p = .bool st.put ∧ Hid (ISt wo wq wo.heap.size st o h2) ∧ Hid (JSt out j (a, b) st)) (fun _ _ i _ => m - (intOf i).toNat)
        case atStart => exact ⟨0, ⟨(a, b), [], false⟩, none, Nat.zero_le _, rfl, rfl, Lib.hid ⟨Blk.new _ _ _, Sl.nil _ _ _, (RowKit.Below.refl _ _).alloc (Nat.le_refl _) _, by simp⟩, Lib.hid (JSt.start haa1 (by omega) (by omega))⟩
        case round =>
          obtain ⟨j, st, h2, hj, rfl, rfl, HI, HJ⟩ := hrel
          by_cases hjm : j < m
          · have hjo : j < out.length := by rw [HM.out]; exact hjm
            obtain ⟨bo, offo, co', hvo, _, _, hblo, _, hco⟩ := (HS0.out.reads [] (by simp)).at_ (by omega)
            injection hvo with hvo1 hvo2 hvo3
            subst hvo1
            clear hvo2 hvo3
            obtain ⟨g0, g1⟩ := flatR_at out j hjo
            have e0 : wr.cell? ⟨bo, offo + j * 2, none⟩ = some (.int .i64 out[j].1) := ((HI.out.bel.cell (p := ⟨bo, offo + j * 2, none⟩) hblo).trans (hco _ (by omega))).trans g0
            have e1 : wr.cell? ⟨bo, offo + j * 2 + 1, none⟩ = some (.int .i64 out[j].2) := ((HI.out.bel.cell (p := ⟨bo, offo + j * 2 + 1, none⟩) hblo).trans (hco (j * 2 + 1) (by omega))).trans g1
            have hby := HO.out.rng out[j] (List.getElem_mem hjo)
            obtain ⟨y, hy⟩ : ∃ y, out[j] = y := ⟨_, rfl⟩
            rw [hy] at e0 e1 hby
            have HOY := Lib.hid hy
            clear hco g0 g1 hy
            have hx1 := HJ.out.x1
            have hx2 := HJ.out.x2
            have hnl : st.next.length ≤ j + 1 := by have := HJ.out.len; omega
            have k0 := HI.out.box.cell 0
            have k1 := HI.out.box.cell 1
            have hbl1 := HI.out.box.lt
            have hfz := HI.out.box.frozen 0
            have hfz1 := HI.out.box.frozen 1
            have HJS := fun st' he => Lib.hid (HJ.out.step (hj := hjo) HOY.out (st' := st') he hby)
            have HPU := fun w3 w' o' h' aa bb hb hr hc ho p => HI.out.push (w3 := w3) (w' := w') (o' := o') (h' := h') hb aa bb hr hc ho p
            have HSE := fun aa bb c => HI.out.set aa bb c (Nat.le_of_lt hbl1)
            obtain ⟨⟨x1, x2⟩, nx, pt⟩ := st
            obtain ⟨y1, y2⟩ := y
            simp only at e0 e1 hby hx1 hx2 hnl k0 k1 HJS HPU HSE
            obtain ⟨hy1, hy1', hy2⟩ := hby
            obtain ⟨hx1a, hx1b⟩ := hx1
            have HSL : Hid (∀ c, Sl (wr.alloc c) 75 2 u6 h2 nx.length (flatR nx)) := Lib.hid fun c => HI.out.sl.alloc c
            by_cases c1 : y2 < x1 - 1
            · have HJ1 := HJS ⟨(x1, x2), nx ++ [(y1, y2)], pt⟩ (by unfold iStep; rw [if_pos c1])
              clear HJS HSE
              go_wp2_with (at_builtin; refine wpList_append_slX rfl _ _ 55 rfl Tryz.underlying55 hi hz0 hz1 hz2 rfl (by decide) (HSL.out _) rfl (wr.heap.size + 1) (by simp) 1 1 rfl rfl ?_ ?_ ?_ ?_)
              · simp [Value.oneCell']
              · unfold maxLen
                omega
              · omega
              · intro v' h' w' r1 r2 r3
                have HI1 := Lib.hid (HPU _ _ _ _ _ _ ((RowKit.Below.refl _ _).alloc (Nat.le_refl _) _) (by simpa using r1) r2 (by simpa using r3) pt)
                clear r1 r2 r3 HPU
                go_wp2
                refine ⟨?_, by simp [intOf]; omega⟩
                first | exact ⟨j + 1, _, _, by omega, by go_num, rfl, HI1, HJ1⟩ | ((repeat apply Exists.intro); exact ⟨⟨j + 1, _, _, by omega, by go_num, rfl, HI1, HJ1⟩, rfl⟩)
            · by_cases c2 : x2 < y1 - 1
              · cases pt with
                | true =>
                  have HJ1 := HJS ⟨(x1, x2), nx ++ [(y1, y2)], true⟩ (by unfold iStep; rw [if_neg c1, if_pos c2]; rfl)
                  clear HJS HSE
                  go_wp2_with (at_builtin; refine wpList_append_slX rfl _ _ 55 rfl Tryz.underlying55 hi hz0 hz1 hz2 rfl (by decide) (HSL.out _) rfl (wr.heap.size + 1) (by simp) 1 1 rfl rfl ?_ ?_ ?_ ?_)
                  · simp [Value.oneCell']
                  · unfold maxLen
                    omega
                  · omega
                  · intro v' h' w' r1 r2 r3
                    have HI1 := Lib.hid (HPU _ _ _ _ _ _ ((RowKit.Below.refl _ _).alloc (Nat.le_refl _) _) (by simpa using r1) r2 (by simpa using r3) true)
                    clear r1 r2 r3 HPU
                    go_wp2
                    refine ⟨?_, by simp [intOf]; omega⟩
                    first | exact ⟨j + 1, _, _, by omega, by go_num, rfl, HI1, HJ1⟩ | ((repeat apply Exists.intro); exact ⟨⟨j + 1, _, _, by omega, by go_num, rfl, HI1, HJ1⟩, rfl⟩)
                | false =>
                  have HJ1 := HJS ⟨(x1, x2), nx ++ [(x1, x2)] ++ [(y1, y2)], true⟩ (by unfold iStep; rw [if_neg c1, if_pos c2]; rfl)
                  clear HJS HSE
                  go_wp2_with (at_builtin; refine wpList_append_slX rfl _ _ 55 rfl Tryz.underlying55 hi hz0 hz1 hz2 rfl (by decide) (HSL.out _) rfl (wr.heap.size + 1) (by simp) 1 1 rfl rfl ?_ ?_ ?_ ?_)
                  · simp [Value.oneCell']
                  · unfold maxLen
                    omega
                  · omega
                  · intro v' h' w' r1 r2 r3
                    have hIS := HPU _ _ _ _ _ _ ((RowKit.Below.refl _ _).alloc (Nat.le_refl _) _) (by simpa using r1) r2 (by simpa using r3) true
                    have hyb : Blk w' wr.heap.size 75 #[.int .i64 y1, .int .i64 y2] := (Blk.new wr _ _).chg r2 (fun hm => by
                      have := Sl.lt HI.out.sl wr.heap.size (by simpa using hm)
                      omega)
                    have m0 := hyb.cell 0
                    have m1 := hyb.cell 1
                    have HIS := Lib.hid hIS
                    have HSL2 := Lib.hid hIS.sl
                    clear r1 r2 r3 HPU hIS hyb
                    simp only [List.length_append, List.length_singleton] at HSL2
                    go_wp2_with (at_builtin; refine wpList_append_sl rfl _ _ 55 rfl Tryz.underlying55 hi hz0 hz1 hz2 rfl (by decide) HSL2.out rfl 1 1 rfl rfl ?_ ?_ ?_ ?_)
                    · simp [Value.oneCell']
                    · unfold maxLen
                      omega
                    · omega
                    · intro v3 h3 w3 r1 r2 r3
                      have HI1 := Lib.hid (HIS.out.push (RowKit.Below.refl _ _) y1 y2 (by simpa using r1) r2 (by simpa using r3) true)
                      clear r1 r2 r3
                      go_wp2
                      refine ⟨?_, by simp [intOf]; omega⟩
                      first | exact ⟨j + 1, _, _, by omega, by go_num, rfl, HI1, HJ1⟩ | ((repeat apply Exists.intro); exact ⟨⟨j + 1, _, _, by omega, by go_num, rfl, HI1, HJ1⟩, rfl⟩)
              · obtain ⟨lo, hlo⟩ : ∃ lo : Int, (if y1 < x1 then y1 else x1) = lo := ⟨_, rfl⟩
                obtain ⟨hi', hhi⟩ : ∃ hi' : Int, (if x2 < y2 then y2 else x2) = hi' := ⟨_, rfl⟩
                have hmx := fun ats ty W => run_max_int (P := Tryz.prog) ats ty x2 y2 W
                have hmn := fun ats ty W => run_min_int (P := Tryz.prog) ats ty x1 y1 W
                rw [hlo] at hmn
                rw [hhi] at hmx
                have hl2 : min x1 y1 = lo := by omega
                have hh2 : max x2 y2 = hi' := by omega
                have HJ1 := HJS ⟨(lo, hi'), nx, pt⟩ (by unfold iStep; rw [if_neg c1, if_neg c2, hl2, hh2])
                have HI1 := Lib.hid (HSE lo hi' (.cells #[.int .i64 y1, .int .i64 y2] 75))
                clear HJS HSE HPU hlo hhi hl2 hh2
                go_wp2
                refine ⟨?_, by simp [intOf]; omega⟩
                first | exact ⟨j + 1, _, _, by omega, by go_num, rfl, HI1, HJ1⟩ | ((repeat apply Exists.intro); exact ⟨⟨j + 1, _, _, by omega, by go_num, rfl, HI1, HJ1⟩, rfl⟩)
          · have hjm2 : j = m := by omega
            subst hjm2
            have hIS := HI.out
            have hJS := HJ.out
            have hrs : rStep out (a0, b) = iEnd st := by
              unfold rStep
              simp only [HY.out.2]
              rw [if_neg (by omega)]
              unfold iOut
              have := hJS.fold
              rw [List.take_of_length_le (by rw [HM.out]; exact Nat.le_refl _)] at this
              rw [this]
            have HRS := Lib.hid hrs
            have k0 := hIS.box.cell 0
            have k1 := hIS.box.cell 1
            have hnl : st.next.length ≤ j + 1 := by have := hJS.len; omega
            have HSL := Lib.hid hIS.sl
            clear hIS hJS hrs
            obtain ⟨⟨x1, x2⟩, nx, pt⟩ := st
            simp only at k0 k1 hnl
            cases pt with
            | true =>
              have HST := Lib.hid (HO.out.next (hk := hkl) HY.out.1 HRS.out HJ.out (by have := HM.out; omega) rfl HI.out.sl HI.out.bel)
              go_wp2
              refine ⟨?_, by simp [intOf]; omega⟩
              first | exact ⟨k + 1, _, _, by omega, by go_num, HST⟩ | ((repeat apply Exists.intro); exact ⟨⟨k + 1, _, _, by omega, by go_num, HST⟩, rfl⟩)
            | false =>
              go_wp2_with (at_builtin; refine wpList_append_sl rfl _ _ 55 rfl Tryz.underlying55 hi hz0 hz1 hz2 rfl (by decide) HSL.out rfl 1 1 rfl rfl ?_ ?_ ?_ ?_)
              · simp [Value.oneCell']
              · unfold maxLen
                omega
              · omega
              · intro v3 h3 w3 r1 r2 r3
                have HI1 := Lib.hid (HI.out.push (RowKit.Below.refl _ _) x1 x2 (by simpa using r1) r2 (by simpa using r3) true)
                have HST := Lib.hid (HO.out.next (hk := hkl) HY.out.1 HRS.out HJ.out (by have := HM.out; omega) rfl HI1.out.sl HI1.out.bel)
                clear r1 r2 r3
                go_wp2
                refine ⟨?_, by simp [intOf]; omega⟩
                first | exact ⟨k + 1, _, _, by omega, by go_num, HST⟩ | ((repeat apply Exists.intro); exact ⟨⟨k + 1, _, _, by omega, by go_num, HST⟩, rfl⟩)
    · have hkn : k = n := by omega
      subst hkn
      have hf := HO.out.fold
      rw [List.take_of_length_le (by rw [HN.out]; exact Nat.le_refl _)] at hf
      have hs := HO.out.sl
      have HF := Lib.hid (show rGo l = out from hf)
      have HS := Lib.hid hs
      clear hf hs
      go_wp2
      go_ret
      exact ⟨_, _, rfl, by rw [HF.out]; exact HS.out, HO.out.bel⟩

end Go.Proofs.YtnfabgbidkddhaaGreatDoor

namespace Go.Proofs.YtnfabgbidkddhaaGreatDoor
open Go.RowKit Go.Lib

theorem extract_mid (s : ByteArray) (a b : Nat) : (s.extract a b).data.toList = (s.data.toList.drop a).take (b - a) := by
  rw [Lib.extract_data]
theorem occ_iff (s sub : ByteArray) (k : Nat) : occAt s.data.toList sub.data.toList k = true ↔ (s.extract k (k + sub.size)).data.toList = sub.data.toList := by
  unfold occAt
  rw [extract_mid, Nat.add_sub_cancel_left, List.isPrefixOf_iff_prefix, List.prefix_iff_eq_take]
  have : sub.data.toList.length = sub.size := by simp
  rw [this]
  exact ⟨fun h => h.symm, fun h => h.symm⟩

set_option maxRecDepth 100000 in
set_option maxHeartbeats 1000000 in
theorem refIndex_any (s sub : ByteArray) (w : World) (hs : s.size ≤ 140737488351232) (hsub : sub.size ≤ 140737488351232) (h1 : 1 ≤ sub.size) :
    Calls Tryz.prog 115 #[.string s, .string sub, .int .i64 0] w fun e w' => e = .returned (.int .i64 (index s.data.toList sub.data.toList)) ∧ w = w' := by
  obtain ⟨ans, hans⟩ : ∃ ans, index s.data.toList sub.data.toList = ans := ⟨_, rfl⟩
  rw [hans]
  have HANS := Lib.hid hans
  have hl : s.data.toList.length = s.size := by simp
  have hm : sub.data.toList.length = sub.size := by simp
  have HL := Lib.hid hl
  have HM := Lib.hid hm
  clear hans hl hm
  go_enter Tryz.func115, Tryz.ntmps115
  go_wp2
  go_loop [7] (fun i => ∃ k : Nat, k ≤ s.size + 1 ∧ i = .int .i64 k ∧ Hid (NoOcc s.data.toList sub.data.toList k)) (fun i => s.size + 1 - (RowKit.intOf i).toNat)
  case atStart => exact ⟨0, Nat.zero_le _, rfl, Lib.hid (NoOcc.zero _ _)⟩
  case round =>
    obtain ⟨k, hk, rfl, HU⟩ := hrel
    by_cases hlt : k + sub.size ≤ s.size
    · cases ho : occAt s.data.toList sub.data.toList k with
      | true =>
        have he := (occ_iff s sub k).1 ho
        have hx : ans = (k : Int) := by
          rw [← HANS.out]
          exact index_hit HU.out (by rw [HL.out]; omega) ho
        subst hx
        have hb : ((s.extract k (k + sub.size)).toList == sub.toList) = true := by rw [ByteArray.toList_eq, ByteArray.toList_eq, he]; simp
        clear he ho HANS
        go_wp2
        go_ret
        exact ⟨rfl, rfl⟩
      | false =>
        have he : ¬ (s.extract k (k + sub.size)).data.toList = sub.data.toList := fun h => by
          rw [(occ_iff s sub k).2 h] at ho
          cases ho
        have hb : ((s.extract k (k + sub.size)).toList == sub.toList) = false := by rw [ByteArray.toList_eq, ByteArray.toList_eq, beq_eq_false_iff_ne]; exact he
        have HU2 := Lib.hid (HU.out.succ ho)
        clear he ho
        go_wp2
        go_round
        case rel => exact ⟨k + 1, by omega, by go_num, HU2⟩
        case measure => simp [RowKit.intOf]; omega
    · have hx : ans = -1 := by
        rw [← HANS.out]
        refine index_past ?_ HU.out (by rw [HL.out, HM.out]; omega)
        intro h
        have := HM.out
        rw [h] at this
        simp at this
        omega
      subst hx
      clear HANS
      go_wp2
      go_ret
      exact ⟨rfl, rfl⟩

end Go.Proofs.YtnfabgbidkddhaaGreatDoor

namespace Go.Proofs.YtnfabgbidkddhaaGreatDoor
open Go.Shelf Go.RowKit Go.Lib Go.Sort
attribute [local go_sem ↓] Go.wp_at_zero Go.wp_at_succ

def refGo (star : Int) : List (List UInt8) → List Rg → Option (List Rg)
  | [], acc => some acc
  | p :: ps, acc => if (partL p star).2 then refGo star ps (acc ++ [(partL p star).1]) else none
def refReadL (l : List UInt8) (star : Int) : List Rg × Int :=
  if 1000 < l.length then ([], 2) else match refGo star (piecesC 44 l) [] with
    | none => ([], 3)
    | some a => (rGo a, 0)

/-- What the loop keeps. -/
structure QSt (w wr : World) (l : List UInt8) (star : Int) (r : Option (List Rg)) (i f : Nat) (o : Value) (acc : List Rg) (h : Option Nat) : Prop where
  sl : Sl wr 75 2 o h acc.length (flatR acc)
  bel : RowKit.Below w.heap.size w wr
  len : acc.length ≤ i
  rng : ∀ x ∈ acc, 0 ≤ x.1 ∧ x.1 ≤ 9223372036854775807 ∧ x.2 ≤ 9223372036854775807
  own : ∀ b, h = some b → w.heap.size ≤ b
  go : i ≤ l.length → r = refGo star (piecesC 44 (l.drop f)) acc ∧ f ≤ i ∧ ∀ b ∈ (l.drop f).take (i - f), b ≠ 44
  fin : l.length < i → r = some acc

theorem QSt.more {w wr : World} {l : List UInt8} {star : Int} {r : Option (List Rg)} {i f : Nat} {o : Value} {acc : List Rg} {h : Option Nat} (s : QSt w wr l star r i f o acc h) (hi : i < l.length) (hb : l[i] ≠ 44) : QSt w wr l star r (i + 1) f o acc h := by
  obtain ⟨h1, h2, h3⟩ := s.go (by omega)
  refine ⟨s.sl, s.bel, by have := s.len; omega, s.rng, s.own, fun _ => ⟨h1, by omega, ?_⟩, fun h => by omega⟩
  intro b hbm
  rw [show i + 1 - f = (i - f) + 1 by omega, List.take_add_one] at hbm
  rcases List.mem_append.1 hbm with hm | hm
  · exact h3 b hm
  · rw [List.getElem?_drop, show f + (i - f) = i by omega, List.getElem?_eq_getElem hi] at hm
    simp at hm
    rw [hm]
    exact hb

/-- A piece's end: what is to be told of it and what comes behind. -/
theorem QSt.piece {w wr : World} {l : List UInt8} {star : Int} {r : Option (List Rg)} {i f : Nat} {o : Value} {acc : List Rg} {h : Option Nat} (s : QSt w wr l star r i f o acc h) (hi : i ≤ l.length) (hb : ∀ h : i < l.length, l[i] = 44) (p : List UInt8) (hp : (l.drop f).take (i - f) = p) :
    r = (if (partL p star).2 then (if i < l.length then refGo star (piecesC 44 (l.drop (i + 1))) (acc ++ [(partL p star).1]) else some (acc ++ [(partL p star).1])) else none) ∧ f ≤ i := by
  obtain ⟨h1, h2, h3⟩ := s.go hi
  refine ⟨?_, h2⟩
  rw [hp] at h3
  have hsplit : l.drop f = p ++ l.drop i := by
    rw [← hp]
    have : l.drop i = (l.drop f).drop (i - f) := by rw [List.drop_drop, show f + (i - f) = i by omega]
    rw [this, List.take_append_drop]
  rw [h1, hsplit]
  by_cases hlt : i < l.length
  · have hd : l.drop i = 44 :: l.drop (i + 1) := by rw [List.drop_eq_getElem_cons hlt, hb hlt]
    rw [hd, piecesC_cut 44 p _ h3, if_pos hlt]
    rfl
  · rw [List.drop_of_length_le (by omega), List.append_nil, piecesC_end 44 p h3, if_neg hlt]
    rfl

theorem QSt.push {w wr w' : World} {l : List UInt8} {star : Int} {r : Option (List Rg)} {i f : Nat} {o v' : Value} {acc : List Rg} {h h' : Option Nat} (s : QSt w wr l star r i f o acc h) {a b : Int}
    (hgo : r = if i < l.length then refGo star (piecesC 44 (l.drop (i + 1))) (acc ++ [(a, b)]) else some (acc ++ [(a, b)])) (hr : 0 ≤ a ∧ a ≤ 9223372036854775807 ∧ b ≤ 9223372036854775807)
    (hs2 : Sl w' 75 2 v' h' (acc.length + 1) (flatR acc ++ [.int .i64 a, .int .i64 b])) (hc2 : Chg h.toList wr w') (ho2 : h' = h ∨ ∃ g, h' = some g ∧ wr.heap.size ≤ g) :
    QSt w w' l star r (i + 1) (i + 1) v' (acc ++ [(a, b)]) h' := by
  refine ⟨?_, s.bel.trans (hc2.below s.bel.size fun k hk => s.own k (by simpa using hk)), ?_, ?_, ?_, ?_, ?_⟩
  · have e := flatR_snoc acc a b
    rw [e] at hs2
    simpa using hs2
  · have := s.len
    simp
    omega
  · intro x hx
    rcases List.mem_append.1 hx with hx | hx
    · exact s.rng x hx
    · rw [List.mem_singleton.1 hx]
      exact hr
  · intro g hg
    have := s.bel.size
    rcases ho2 with h1 | ⟨g', h1, h2⟩
    · exact s.own g (by rw [← h1]; exact hg)
    · rw [hg] at h1
      injection h1 with h1
      omega
  · intro hi
    rw [if_pos (by omega)] at hgo
    exact ⟨hgo, Nat.le_refl _, by simp⟩
  · intro hi
    rw [if_neg (by omega)] at hgo
    exact hgo

theorem cut_hit (l : List UInt8) (j : Nat) (h : index l [58] = j) : cutL l = (l.take j, l.drop (j + 1)) := by
  have hc : Lib.cut l [58] = (l.take j, l.drop (j + 1), true) := by
    unfold Lib.cut
    rw [h, if_pos (by omega)]
    simp
  unfold cutL
  rw [hc]
  simp
theorem cut_miss (l : List UInt8) (h : index l [58] = -1) : cutL l = (l, l) := by
  have hc : Lib.cut l [58] = (l, [], false) := by
    unfold Lib.cut
    rw [h]
    rfl
  unfold cutL
  rw [hc]
  simp

set_option maxRecDepth 100000 in
set_option maxHeartbeats 8000000 in
theorem refRead_any (s : ByteArray) (star : Int) (w : World) (hs : s.size ≤ 140737488351232) (hst : star ≤ 9223372036854775807) :
    Calls Tryz.prog 80 #[.string s, .int .i64 star] w (RetR w.heap.size w (refReadL s.data.toList star)) := by
  have hsz := lenB s
  obtain ⟨i0, hi, hz0, hz1, hz2⟩ := info_parts Tryz.infoRange
  by_cases hlong : 1000 < s.size
  · have hr : refReadL s.data.toList star = ([], 2) := by
      unfold refReadL
      rw [if_pos (by omega)]
    rw [hr]
    clear hr hst
    go_enter Tryz.func80, Tryz.ntmps80
    go_wp2
    go_ret2
    exact ⟨_, none, rfl, Sl.nil _ _ _, RowKit.Below.refl _ _⟩
  · have hrl : refReadL s.data.toList star = match refGo star (piecesC 44 s.data.toList) [] with
        | none => ([], 3)
        | some a => (rGo a, 0) := by
      unfold refReadL
      rw [if_neg (by omega)]
    rw [hrl]
    obtain ⟨ro, hro⟩ : ∃ ro, refGo star (piecesC 44 s.data.toList) [] = ro := ⟨_, rfl⟩
    rw [hro]
    have HRO := Lib.hid hro
    have HLEN := Lib.hid hsz
    clear hrl hro hsz
    go_enter Tryz.func80, Tryz.ntmps80
    go_wp2
    go_loopw [6, 7, 8] (fun o fv iv wr => ∃ (i f : Nat) (acc : List Rg) (h : Option Nat), i ≤ s.size + 1 ∧ iv = .int .i64 i ∧ fv = .int .i64 f ∧ Hid (QSt w wr s.data.toList star ro i f o acc h)) (fun _ _ iv _ => s.size + 1 - (intOf iv).toNat)
    case atStart => exact ⟨0, 0, [], none, Nat.zero_le _, rfl, rfl, Lib.hid ⟨Sl.nil _ _ _, RowKit.Below.refl _ _, Nat.le_refl _, by simp, by simp, fun _ => ⟨HRO.out.symm, Nat.le_refl _, by simp⟩, fun h => by simp at h⟩⟩
    case round =>
      obtain ⟨i, f, acc, h, hik, rfl, rfl, HS⟩ := hrel
      clear HRO
      by_cases hlt : i ≤ s.size
      · by_cases hc : ∃ hi' : i < s.size, s[i] ≠ 44
        · obtain ⟨hi', hne⟩ := hc
          have hne2 : s.data.toList[i]'(by simpa using hi') ≠ 44 := hne
          have HS2 := Lib.hid (HS.out.more (by rw [HLEN.out]; exact hi') hne2)
          have hb : (((s[i]'hi').toNat : Int) != 44) = true := by
            rw [bne_iff_ne]
            intro e
            exact hne (UInt8.toNat_inj.1 (by show _ = (44 : Nat); omega))
          clear hne hne2
          go_wp2
          go_roundw
          case rel => exact ⟨i + 1, f, _, _, by omega, by go_num, rfl, HS2⟩
          case measure => simp [intOf]; omega
        · obtain ⟨p, hp⟩ : ∃ p : ByteArray, s.extract f i = p := ⟨_, rfl⟩
          have hpl : (s.data.toList.drop f).take (i - f) = p.data.toList := by rw [← hp, extract_mid]
          have h44 : ∀ h : i < s.data.toList.length, s.data.toList[i] = 44 := by
            intro h
            by_cases he : s.data.toList[i] = 44
            · exact he
            · exact absurd ⟨by simpa using h, he⟩ hc
          obtain ⟨hro, hfi⟩ := HS.out.piece (by rw [HLEN.out]; exact hlt) h44 p.data.toList hpl
          have hpsz : p.size ≤ 1000 := by
            have h1 := lenB p
            have h2 := congrArg List.length hpl
            rw [List.length_take, List.length_drop, HLEN.out] at h2
            omega
          have hg : (decide (i < s.size) = false) ∨ ∃ hi' : i < s.size, ((((s[i]'hi').toNat : Int) != 44) = false ∧ decide (i < s.size) = true) := by
            by_cases hi' : i < s.size
            · right
              refine ⟨hi', ?_, decide_eq_true hi'⟩
              have := h44 (by simpa using hi')
              have h2 : s[i]'hi' = 44 := this
              rw [h2]
              rfl
            · exact .inl (decide_eq_false hi')
          have hidx := fun W => refIndex_any p ⟨#[58]⟩ W (by omega) (by decide) (by decide)
          have hrg := partL_rng p.data.toList star hst
          have hps := lenB p
          have HP := Lib.hid hpl
          have HRO := Lib.hid hro
          have HSL := Lib.hid HS.out.sl
          have hnl := HS.out.len
          have HPUSH := fun w' v' h' a b hgo hr hs2 hc2 ho2 => HS.out.push (w' := w') (v' := v') (h' := h') (a := a) (b := b) hgo hr hs2 hc2 ho2
          have HBE := Lib.hid HS.out.bel
          have hfi1 : (f : Int) ≤ (i : Int) := by omega
          have hfi2 : (i : Int) ≤ (s.size : Int) := by omega
          clear hpl h44 hro hc HS hfi
          by_cases hneg : index p.data.toList [58] < 0
          · have hm1 : index p.data.toList [58] = -1 := by have := index_ge p.data.toList [58]; omega
            have hcut := cut_miss _ hm1
            simp only [hm1] at hidx
            clear hneg hm1
            have hb0 := fun W => refBound_any p star W (by omega)
            have hpart : partL p.data.toList star = ((if (boundL p.data.toList star).1 < (boundL p.data.toList star).1 then (boundL p.data.toList star).1 else (boundL p.data.toList star).1, if (boundL p.data.toList star).1 < (boundL p.data.toList star).1 then (boundL p.data.toList star).1 else (boundL p.data.toList star).1), (boundL p.data.toList star).2 && (boundL p.data.toList star).2) := by
              unfold partL
              rw [hcut]
            rw [hpart] at HRO hrg
            generalize boundL p.data.toList star = x at hb0 HRO hrg
            obtain ⟨x, bx⟩ := x
            simp only [Int.lt_irrefl, if_false, Bool.and_self] at hb0 HRO hrg
            have hmx := fun ats ty W => run_max_int (P := Tryz.prog) ats ty x x W
            have hmn := fun ats ty W => run_min_int (P := Tryz.prog) ats ty x x W
            simp only [Int.lt_irrefl, if_false] at hmx hmn
            clear hpart hcut
            cases bx with
            | false =>
              simp only [Bool.false_eq_true, if_false] at HRO
              have hro := HRO.out
              subst hro
              clear hrg HPUSH HRO hmx hmn
              rcases hg with hd | ⟨hi', hd, hd2⟩
              all_goals
                go_wp2_with (first
                  | (go_at_call 115; refine (hidx _).mono ?_; rintro e w2 ⟨rfl, rfl⟩; clear hidx)
                  | (go_at_call 116; refine (hb0 _).mono ?_; rintro e w3 ⟨rfl, rfl⟩)
                  | fail)
                go_ret2
                exact ⟨_, none, rfl, Sl.nil _ _ _, HBE.out⟩
            | true =>
              simp only [if_true] at HRO
              have HRG := Lib.hid hrg
              clear hrg
              rcases hg with hd | ⟨hi', hd, hd2⟩
              all_goals
                go_wp2_with (first
                  | (go_at_call 115; refine (hidx _).mono ?_; rintro e w2 ⟨rfl, rfl⟩; clear hidx)
                  | (go_at_call 116; refine (hb0 _).mono ?_; rintro e w3 ⟨rfl, rfl⟩)
                  | (at_builtin; refine wpList_append_sl rfl _ _ 55 rfl Tryz.underlying55 hi hz0 hz1 hz2 rfl (by decide) HSL.out rfl 1 1 rfl rfl ?_ ?_ ?_ ?_)
                  | fail)
                · simp [Value.oneCell']
                · unfold maxLen
                  omega
                · omega
                · intro v' h' w' r1 r2 r3
                  have HST := Lib.hid (HPUSH w' v' h' x x (by simpa using HRO.out) (by have := HRG.out; omega) (by simpa using r1) r2 r3)
                  clear r1 r2 r3 HPUSH
                  go_wp2
                  refine ⟨?_, by simp [intOf]; omega⟩
                  first | exact ⟨i + 1, i + 1, _, _, by omega, by go_num, by go_num, HST⟩ | ((repeat apply Exists.intro); exact ⟨⟨i + 1, i + 1, _, _, by omega, by go_num, by go_num, HST⟩, rfl⟩)
          · obtain ⟨j, hj⟩ : ∃ j : Nat, index p.data.toList [58] = j := ⟨(index p.data.toList [58]).toNat, by omega⟩
            have hcut := cut_hit _ j hj
            simp only [hj] at hidx
            have hjp : j + 1 ≤ p.size := by
              have ho := index_room p.data.toList [58] (by omega)
              simp only [List.length_singleton] at ho
              omega
            obtain ⟨a, ha⟩ : ∃ a : ByteArray, p.extract 0 j = a := ⟨_, rfl⟩
            obtain ⟨b, hb⟩ : ∃ b : ByteArray, p.extract (j + 1) p.size = b := ⟨_, rfl⟩
            have hal : p.data.toList.take j = a.data.toList := by rw [← ha, Lib.extract_from_zero]
            have hbl : p.data.toList.drop (j + 1) = b.data.toList := by rw [← hb, Lib.extract_to_end]
            have has : a.size ≤ 1000 := by
              have h1 := lenB a
              have h2 := congrArg List.length hal
              rw [List.length_take] at h2
              omega
            have hbs : b.size ≤ 1000 := by
              have h1 := lenB b
              have h2 := congrArg List.length hbl
              rw [List.length_drop] at h2
              omega
            have hba := fun W => refBound_any a star W (by omega)
            have hbb := fun W => refBound_any b star W (by omega)
            have hpart : partL p.data.toList star = ((if (boundL b.data.toList star).1 < (boundL a.data.toList star).1 then (boundL b.data.toList star).1 else (boundL a.data.toList star).1, if (boundL a.data.toList star).1 < (boundL b.data.toList star).1 then (boundL b.data.toList star).1 else (boundL a.data.toList star).1), (boundL a.data.toList star).2 && (boundL b.data.toList star).2) := by
              unfold partL
              rw [hcut, hal, hbl]
            rw [hpart] at HRO hrg
            generalize boundL a.data.toList star = x at hba HRO hrg
            generalize boundL b.data.toList star = y at hbb HRO hrg
            obtain ⟨x, bx⟩ := x
            obtain ⟨y, by'⟩ := y
            simp only at hba hbb HRO hrg
            obtain ⟨lo, hlo⟩ : ∃ lo : Int, (if y < x then y else x) = lo := ⟨_, rfl⟩
            obtain ⟨up, hup⟩ : ∃ up : Int, (if x < y then y else x) = up := ⟨_, rfl⟩
            have hmx := fun ats ty W => run_max_int (P := Tryz.prog) ats ty x y W
            have hmn := fun ats ty W => run_min_int (P := Tryz.prog) ats ty x y W
            rw [hlo] at hmn HRO hrg
            rw [hup] at hmx HRO hrg
            clear hpart hcut hneg hj hal hbl hlo hup
            have hj0 : (0 : Int) ≤ (j : Int) := by omega
            cases bx with
            | false =>
              simp only [Bool.false_and, Bool.false_eq_true, if_false] at HRO
              have hro := HRO.out
              subst hro
              clear hrg HPUSH HRO hmx hmn
              rcases hg with hd | ⟨hi', hd, hd2⟩
              all_goals
                go_wp2_with (first
                  | (go_at_call 115; refine (hidx _).mono ?_; rintro e w2 ⟨rfl, rfl⟩; clear hidx)
                  | (go_at_call 116; with_reducible refine (hba _).mono ?_; rintro e w3 ⟨rfl, rfl⟩; clear hba)
                  | (go_at_call 116; with_reducible refine (hbb _).mono ?_; rintro e w3 ⟨rfl, rfl⟩; clear hbb)
                  | fail)
                go_ret2
                exact ⟨_, none, rfl, Sl.nil _ _ _, HBE.out⟩
            | true =>
              cases by' with
              | false =>
                simp only [Bool.and_false, Bool.false_eq_true, if_false] at HRO
                have hro := HRO.out
                subst hro
                clear hrg HPUSH HRO hmx hmn
                rcases hg with hd | ⟨hi', hd, hd2⟩
                all_goals
                  go_wp2_with (first
                    | (go_at_call 115; refine (hidx _).mono ?_; rintro e w2 ⟨rfl, rfl⟩; clear hidx)
                    | (go_at_call 116; with_reducible refine (hba _).mono ?_; rintro e w3 ⟨rfl, rfl⟩; clear hba)
                    | (go_at_call 116; with_reducible refine (hbb _).mono ?_; rintro e w3 ⟨rfl, rfl⟩; clear hbb)
                    | fail)
                  go_ret2
                  exact ⟨_, none, rfl, Sl.nil _ _ _, HBE.out⟩
              | true =>
                simp only [Bool.and_self, if_true] at HRO
                have HRG := Lib.hid hrg
                clear hrg
                rcases hg with hd | ⟨hi', hd, hd2⟩
                all_goals
                  go_wp2_with (first
                    | (go_at_call 115; refine (hidx _).mono ?_; rintro e w2 ⟨rfl, rfl⟩; clear hidx)
                    | (go_at_call 116; with_reducible refine (hba _).mono ?_; rintro e w3 ⟨rfl, rfl⟩; clear hba)
                    | (go_at_call 116; with_reducible refine (hbb _).mono ?_; rintro e w3 ⟨rfl, rfl⟩; clear hbb)
                    | (at_builtin; refine wpList_append_sl rfl _ _ 55 rfl Tryz.underlying55 hi hz0 hz1 hz2 rfl (by decide) HSL.out rfl 1 1 rfl rfl ?_ ?_ ?_ ?_)
                    | fail)
                  · simp [Value.oneCell']
                  · unfold maxLen
                    omega
                  · omega
                  · intro v' h' w' r1 r2 r3
                    have HST := Lib.hid (HPUSH w' v' h' lo up (by simpa using HRO.out) (by have := HRG.out; omega) (by simpa using r1) r2 r3)
                    clear r1 r2 r3 HPUSH
                    go_wp2
                    refine ⟨?_, by simp [intOf]; omega⟩
                    first | exact ⟨i + 1, i + 1, _, _, by omega, by go_num, by go_num, HST⟩ | ((repeat apply Exists.intro); exact ⟨⟨i + 1, i + 1, _, _, by omega, by go_num, by go_num, HST⟩, rfl⟩)
      · have hi2 : i = s.size + 1 := by omega
        subst hi2
        have hfin := HS.out.fin (by rw [HLEN.out]; omega)
        subst hfin
        have hmg := fun W (hb : RowKit.Below wr.heap.size wr W) => refMerge_any W u6 acc.length acc rfl ((HS.out.sl.below hb).reads [] (by simp)) (by have := HS.out.len; omega) HS.out.rng
        go_wp2_with (first
          | (go_at_call 82; refine (hmg _ (RowKit.Below.refl _ _)).mono ?_; rintro e w3 ⟨v3, h3, rfl, hs3, hb3⟩; have HS3 := Lib.hid hs3; have HB3 := Lib.hid hb3; clear hmg hs3 hb3)
          | fail)
        go_ret2
        exact ⟨_, _, rfl, HS3.out, HS.out.bel.trans (HB3.out.mono HS.out.bel.size)⟩

end Go.Proofs.YtnfabgbidkddhaaGreatDoor

namespace Go.Proofs.YtnfabgbidkddhaaGreatDoor
open Go.RowKit

theorem bthen {a w w' : World} (hb : Below a.heap.size a w) (h : Below w.heap.size w w') : Below a.heap.size a w' := hb.trans (h.mono hb.size)

/-- Block g begins with the bytes l, none of them frozen. -/
def RowB (w : World) (g : Nat) (l : List UInt8) : Prop := ∀ j (hj : j < l.length), w.cell? ⟨g, j, none⟩ = some (.int .u8 (l[j].toNat : Int)) ∧ w.frozen? ⟨g, j, none⟩ = false

theorem RowB.set {w : World} {g : Nat} {l : List UInt8} (h : RowB w g l) (k : Nat) (hk : k < l.length) (c : UInt8) : RowB (w.setCell ⟨g, k, none⟩ (.int .u8 (c.toNat : Int))) g (l.set k c) := by
  intro j hj
  rw [List.length_set] at hj
  refine ⟨?_, by rw [World.frozen?_setCell]; exact (h j hj).2⟩
  by_cases e : k = j
  · subst e
    rw [World.cell?_setCell_same _ _ _ (h k hk).1]
    simp
  · rw [World.cell?_setCell_other _ _ _ _ (by simp), (h j hj).1]
    simp [e]
theorem RowB.below {w w' : World} {g : Nat} {l : List UInt8} (h : RowB w g l) (hb : Below w.heap.size w w') (hg : g < w.heap.size) : RowB w' g l := by
  intro j hj
  rw [hb.cell (p := ⟨g, j, none⟩) hg, hb.frozen (p := ⟨g, j, none⟩) hg]
  exact h j hj

theorem rowB_conv (w : World) (e : TypeId) (s : ByteArray) : RowB (Lib.bytesWorld w e s) w.heap.size s.data.toList ∧ Below w.heap.size w (Lib.bytesWorld w e s) := by
  constructor
  · intro j hj
    have hj' : j < s.size := by simpa using hj
    constructor
    · rw [Lib.bytesWorld_cell w e s j hj']
      simp [List.getD, List.getElem?_eq_getElem hj]
    · simp only [World.frozen?, Lib.bytesWorld_at_new]
      have h1 : (Lib.bytesCells w e s).size = s.data.size + (grownCap w s.size 0 e - s.size) := by
        unfold Lib.bytesCells
        rw [Array.size_append, Array.size_map, Array.size_replicate]
      have h2 : s.data.size = s.size := rfl
      rw [decide_eq_false (by omega)]
      rfl
  · refine ⟨?_, ?_, ?_, by rw [Lib.bytesWorld_size]; omega, fun k hk => Lib.bytesWorld_at_old w e s k hk⟩
    all_goals simp [Lib.bytesWorld, World.freeze, World.alloc, World.drew, -World.alloc_eq, -World.drew_eq]

/-- '[]byte(s)' in a walk: a new block with the bytes; nothing that was there turns. -/
theorem wpList_bytes_of {P : Program} {w : World} {ops : Array Oper} {rest : List Oper} {o : Oper} {a : Act} {Q : Exit → Act → World → Prop}
    (hgd : o.guard = none) (src dst e : TypeId) (x : Operand) (ho : o.op = .convert src dst x) (hs : P.underlying src = some .string) (hd : P.underlying dst = some (.slice e)) (he : P.underlying e = some (.int .u8))
    (s : ByteArray) (hx : a.eval x = .string s)
    (h : ∀ cap w', s.size ≤ cap → cap ≤ maxLen ∨ maxLen < s.size → RowB w' w.heap.size s.data.toList → Below w.heap.size w w' → w.heap.size < w'.heap.size → wpList P ops Q rest (a.put o.dst (.slice (some ⟨w.heap.size, 0, none⟩) s.size cap)) w') :
    wpList P ops Q (o :: rest) a w := by
  refine wpList_plain hgd fun K hK => ?_
  have hr := Lib.run_convert_string_bytes (P := P) w src dst e s hs hd he
  obtain ⟨h1, h2⟩ := rowB_conv w e s
  unfold Oper.wp
  simp [execOp, ho, hx, hr, Result.andThen]
  refine hK _ _ (h _ _ (grownCap_ge _ _ _ _) ?_ h1 h2 (by rw [Lib.bytesWorld_size]; omega))
  by_cases hm : s.size ≤ maxLen
  · exact .inl (grownCap_le_maxLen w s.size 0 e hm)
  · exact .inr (by omega)

/-- The string of a row of bytes. -/
theorem run_string_row {P : Program} {w : World} {src e g cap : Nat} {l : List UInt8} (hs : P.underlying src = some (.slice e)) (he : P.underlying e = some (.int .u8))
    (h : RowB w g l) (n : Nat) (hn : l.length = n) (dst : TypeId) (hd : P.underlying dst = some .string) :
    (convert src dst (.slice (some ⟨g, 0, none⟩) n cap)).run P w = .ok (.string ⟨l.toArray⟩) w := by
  subst hn
  refine run_convert_bytes_back w src dst e ⟨g, 0, none⟩ cap l hs he hd fun j hj => ?_
  rw [Addr.add_zero_off]
  exact (h j hj).1

/-- The bytes after k rounds: the first k made small. -/
def lowUpTo (l : List UInt8) (k : Nat) : List UInt8 := (l.take k).map lowB ++ l.drop k
theorem lowUpTo_length (l : List UInt8) (k : Nat) : (lowUpTo l k).length = l.length := by
  simp [lowUpTo]
  omega
theorem lowUpTo_zero (l : List UInt8) : lowUpTo l 0 = l := by simp [lowUpTo]
theorem lowUpTo_all (l : List UInt8) : lowUpTo l l.length = lowL l := by simp [lowUpTo, lowL]
theorem lowUpTo_at (l : List UInt8) (k : Nat) (h : k < l.length) (h2 : k < (lowUpTo l k).length) : (lowUpTo l k)[k] = l[k] := by
  simp only [lowUpTo]
  rw [List.getElem_append_right (by simp; omega)]
  simp
  congr 1
  omega
theorem lowUpTo_set (l : List UInt8) (k : Nat) (h : k < l.length) : (lowUpTo l k).set k (lowB l[k]) = lowUpTo l (k + 1) := by
  unfold lowUpTo
  have e1 : l.drop k = l[k] :: l.drop (k + 1) := by rw [List.drop_eq_getElem_cons h]
  have e2 : l.take (k + 1) = l.take k ++ [l[k]] := by rw [List.take_succ_eq_append_getElem h]
  rw [e2, List.set_append_right _ _ (by simp; omega)]
  have : k - ((l.take k).map lowB).length = 0 := by simp; omega
  rw [this, e1, List.map_append, List.append_assoc]
  rfl
theorem lowUpTo_stay (l : List UInt8) (k : Nat) (h : k < l.length) (hc : lowB l[k] = l[k]) : lowUpTo l k = lowUpTo l (k + 1) := by
  rw [← lowUpTo_set l k h, hc]
  have h2 : k < (lowUpTo l k).length := by rw [lowUpTo_length]; exact h
  have := lowUpTo_at l k h h2
  rw [← this, List.set_getElem_self]

end Go.Proofs.YtnfabgbidkddhaaGreatDoor

namespace Go.Proofs.YtnfabgbidkddhaaGreatDoor
open Go.RowKit Go.Lib
attribute [local go_sem ↓] Go.wp_at_zero Go.wp_at_succ

/-- The digits of a number; of one below nought those of nought. -/
def digN (n : Int) : List UInt8 := decDigits n.toNat

theorem dig_conv (c : Nat) (hc : c < 10) (w : World) (g : Nat) (hB : Blk w g 5 #[.int .u8 (48 + (c : Int))]) :
    Sem.run Tryz.prog (convert 46 9 (.slice (some ⟨g, 0, none⟩) 1 1)) w = .ok (.string ⟨[UInt8.ofNat (48 + c)].toArray⟩) w := by
  refine run_string_row Tryz.underlying46 Tryz.underlying5 (l := [UInt8.ofNat (48 + c)]) (fun j hj => ?_) 1 rfl 9 Tryz.underlying9
  refine ⟨?_, hB.frozen j⟩
  rw [hB.cell j]
  match j, hj with
  | 0, _ => simp; omega

theorem decDigits_more (k : Nat) (h : 10 ≤ k) : decDigits k = decDigits (k / 10) ++ [UInt8.ofNat (48 + k % 10)] := by
  rw [decDigits, dif_neg (by omega)]
theorem digN_le (n : Int) (h : n ≤ 9223372036854775807) : (digN n).length ≤ 21 := by
  by_cases h0 : 0 ≤ n
  · have := itoa_length_le n (by omega) h
    obtain ⟨k, rfl⟩ : ∃ k : Nat, n = k := ⟨n.toNat, by omega⟩
    rw [itoa_nonneg] at this
    exact this
  · have e : n.toNat = 0 := by omega
    unfold digN
    rw [e, decDigits_one (by omega)]
    simp

set_option maxRecDepth 100000 in
set_option maxHeartbeats 1000000 in
theorem refDigits_small (n : Int) (h : n < 10) (w : World) :
    Calls Tryz.prog 25 #[.int .i64 n] w fun e w' => e = .returned (.string ⟨(digN n).toArray⟩) ∧ Below w.heap.size w w' := by
  obtain ⟨c, hc⟩ : ∃ c : Nat, (if n < 0 then 0 else n) = (c : Int) := ⟨n.toNat, by omega⟩
  have hc2 : n.toNat = c ∧ c < 10 := by omega
  have hd : digN n = [UInt8.ofNat (48 + c)] := by
    unfold digN
    rw [hc2.1, decDigits_one hc2.2]
  rw [hd]
  have hmx := fun ats ty W => run_max_int (P := Tryz.prog) ats ty n 0 W
  rw [hc] at hmx
  have hcv := dig_conv c hc2.2 _ _ (Blk.new w 5 #[.int .u8 (48 + (c : Int))])
  have hc9 : (c : Int) ≤ 9 := by omega
  generalize UInt8.ofNat (48 + c) = x at hcv
  clear hd hc hc2
  go_enter Tryz.func25, Tryz.ntmps25
  go_wp2
  go_ret
  exact ⟨rfl, (Below.refl _ _).alloc (Nat.le_refl _) _⟩

set_option maxRecDepth 100000 in
set_option maxHeartbeats 2000000 in
theorem refDigits_nat (k : Nat) : k ≤ 9223372036854775807 → ∀ w : World,
    Calls Tryz.prog 25 #[.int .i64 k] w fun e w' => e = .returned (.string ⟨(decDigits k).toArray⟩) ∧ Below w.heap.size w w' := by
  induction k using Nat.strongRecOn with
  | _ k ih =>
    intro hk w
    by_cases hs : k < 10
    · exact refDigits_small k (by omega) w
    · have hih := ih (k / 10) (by omega) (by omega)
      have hlen : (decDigits (k / 10)).length ≤ 21 := digN_le ((k / 10 : Nat) : Int) (by omega)
      rw [decDigits_more k (by omega)]
      generalize decDigits (k / 10) = D at hih hlen
      have hq : ((k / 10 : Nat) : Int) = (k : Int) / 10 := by omega
      have hr : ((k % 10 : Nat) : Int) = (k : Int) % 10 := by omega
      rw [hq] at hih
      have hcv1 := fun W g hB => dig_conv (k % 10) (by omega) W g hB
      rw [hr] at hcv1
      generalize UInt8.ofNat (48 + k % 10) = c at hcv1
      have HCV := Lib.hid hcv1
      have hnl : ¬ 9223372036854775807 < D.length + [c].length := by simp; omega
      have hge : (10 : Int) ≤ (k : Int) := by omega
      have hk2 : (k : Int) ≤ 9223372036854775807 := by omega
      have m1 : IntKind.i64.wrap ((k : Int) / 10) = (k : Int) / 10 := IntWalk.i64_in _ (by omega)
      have m2 : (k : Int).tmod 10 = (k : Int) % 10 := Int.tmod_eq_emod_of_nonneg (by omega)
      have m3 : IntKind.i64.wrap (48 + (k : Int) % 10) = 48 + (k : Int) % 10 := IntWalk.i64_in _ (by omega)
      have m4 : IntKind.u8.wrap (48 + (k : Int) % 10) = 48 + (k : Int) % 10 := IntWalk.u8_in _ (by omega)
      clear ih hq hr hcv1 hs
      go_enter Tryz.func25, Tryz.ntmps25
      go_wp2_with fail
      have h2 : ∀ w2, Below w.drew.heap.size w.drew w2 → Below w.heap.size w w2 := fun w2 h => ⟨h.os, h.tape, h.output, h.size, h.block⟩
      have h3 : ∀ w2, Below (w.alloc (.cells #[.int .u8 (48 + (k : Int) % 10)] 5)).drew.heap.size (w.alloc (.cells #[.int .u8 (48 + (k : Int) % 10)] 5)).drew w2 → Below (w.heap.size + 1) (w.alloc (.cells #[.int .u8 (48 + (k : Int) % 10)] 5)) w2 := fun w2 h => ⟨h.os, h.tape, h.output, h.size, fun i hi => h.block i (by simpa using hi)⟩
      have hcv0 := HCV.out (w.alloc (.cells #[.int .u8 (48 + (k : Int) % 10)] 5)).drew w.heap.size ((Blk.new w 5 #[.int .u8 (48 + (k : Int) % 10)]).heap (by rfl))
      go_region_with (first
        | (go_at_call 25; (with_reducible refine (hih w.drew).mono ?_); rintro e w2 ⟨rfl, hb⟩; have hcv := HCV.out _ _ (Blk.new w2 5 #[.int .u8 (48 + (k : Int) % 10)]); have HB := Lib.hid (h2 w2 hb); clear hb)
        | (go_at_call 25; (with_reducible refine (hih (w.alloc (.cells #[.int .u8 (48 + (k : Int) % 10)] 5)).drew).mono ?_); rintro e w2 ⟨rfl, hb⟩; have hcv := HCV.out w2 w.heap.size ((Blk.new w 5 #[.int .u8 (48 + (k : Int) % 10)]).below (h3 w2 hb) (by simp)); have HB := Lib.hid (((Below.refl w.heap.size w).alloc (Nat.le_refl _) (.cells #[.int .u8 (48 + (k : Int) % 10)] 5)).trans ((h3 w2 hb).mono (by simp))); clear hb)
        | fail)
      all_goals
        go_wp2
        go_ret
        have he : (ByteArray.mk D.toArray) ++ (ByteArray.mk #[c]) = ByteArray.mk (D ++ [c]).toArray := ByteArray.mk_append_mk D [c]
        exact ⟨ret_str he, by first | exact HB.out | exact HB.out.alloc HB.out.size _⟩

theorem refDigits_any (n : Int) (h : n ≤ 9223372036854775807) (w : World) :
    Calls Tryz.prog 25 #[.int .i64 n] w fun e w' => e = .returned (.string ⟨(digN n).toArray⟩) ∧ Below w.heap.size w w' := by
  by_cases hs : n < 10
  · exact refDigits_small n hs w
  · obtain ⟨k, rfl⟩ : ∃ k : Nat, n = k := ⟨n.toNat, by omega⟩
    exact refDigits_nat k (by omega) w

theorem below_grow (w : World) (q : Nat) (os : Array Obj) : Below w.heap.size w (Sort.grow (w.drewN q) os) := by
  refine ⟨rfl, rfl, rfl, by simp [Sort.grow], fun k hk => ?_⟩
  exact Sort.heap_grow_old _ _ (by simpa using hk)

end Go.Proofs.YtnfabgbidkddhaaGreatDoor

namespace Go.Proofs.YtnfabgbidkddhaaGreatDoor
open Go.Lib

/-- One number more. -/
def tStep (s : List Rg × Int) (n : Int) : List Rg × Int :=
  if n ≤ s.2 then s else match s.1.getLast? with
    | some t => if t.2 = n - 1 then (s.1.dropLast ++ [(t.1, n)], n) else (s.1 ++ [(n, n)], n)
    | none => ([(n, n)], n)
def tRows (l : List Int) : List Rg := (l.foldl tStep ([], 0)).1

def rowT (r : Rg) : List UInt8 := digN r.1 ++ (if r.1 < r.2 then 58 :: digN r.2 else [])
def textL (l : List Int) : List UInt8 := join ((tRows l).map rowT) [44]

theorem tStep_skip {s : List Rg} {last n : Int} (h : n ≤ last) : tStep (s, last) n = (s, last) := if_pos h
theorem tStep_none {last n : Int} (h : ¬ n ≤ last) : tStep ([], last) n = ([(n, n)], n) := by
  unfold tStep
  rw [if_neg h]
  rfl
theorem tStep_join {s : List Rg} {t : Rg} {last n : Int} (h : ¬ n ≤ last) (ht : t.2 = n - 1) : tStep (s ++ [t], last) n = (s ++ [(t.1, n)], n) := by
  unfold tStep
  rw [if_neg h]
  simp [ht]
theorem tStep_push {s : List Rg} {t : Rg} {last n : Int} (h : ¬ n ≤ last) (ht : ¬ t.2 = n - 1) : tStep (s ++ [t], last) n = (s ++ [t] ++ [(n, n)], n) := by
  unfold tStep
  rw [if_neg h]
  simp [ht]

theorem join_two (a b : List UInt8) (l : List (List UInt8)) (sep : List UInt8) : join (a :: b :: l) sep = a ++ (sep ++ join (b :: l) sep) := by
  rw [join_cons, join_cons]
  simp [joinTail]
theorem join_snoc (l : List (List UInt8)) (x sep : List UInt8) : join (l ++ [x]) sep = if l = [] then x else join l sep ++ sep ++ x := by
  induction l with
  | nil => simp [join_one]
  | cons a l ih =>
    cases l with
    | nil => simp [join_two, join_one]
    | cons b l =>
      simp only [List.cons_append] at ih ⊢
      rw [join_two, ih, join_two]
      simp

theorem rowT_len (r : Rg) (h1 : r.1 ≤ 9223372036854775807) (h2 : r.2 ≤ 9223372036854775807) : (rowT r).length ≤ 43 := by
  unfold rowT
  have a := digN_le r.1 h1
  have b := digN_le r.2 h2
  rw [List.length_append]
  split
  · simp
    omega
  · simp
    omega

theorem join_len (l : List (List UInt8)) (h : ∀ x ∈ l, x.length ≤ 43) : (join l [44]).length ≤ 44 * l.length := by
  induction l with
  | nil => simp [join_nil]
  | cons a l ih =>
    have ha := h a List.mem_cons_self
    have ih := ih fun x hx => h x (List.mem_cons_of_mem _ hx)
    cases l with
    | nil =>
      rw [join_one]
      simp
      omega
    | cons b l =>
      rw [join_two]
      simp only [List.length_append, List.length_cons, List.length_nil] at ih ⊢
      omega

end Go.Proofs.YtnfabgbidkddhaaGreatDoor

namespace Go.Proofs.YtnfabgbidkddhaaGreatDoor
open Go.Lib

/-- Ranges clipped, the empty ones left out. -/
def keepR (l : List Rg) : List Rg := (l.map clipR).filter fun r => decide (r.1 ≤ r.2)

theorem readGo_ref (star : Int) : ∀ (ps : List (List UInt8)) (acc : List Rg), readGo star ps (keepR acc) = (refGo star ps acc).map keepR
  | [], acc => rfl
  | p :: ps, acc => by
    unfold readGo refGo
    by_cases h : (partL p star).2
    · rw [if_pos h, if_pos h, ← readGo_ref star ps]
      congr 1
      unfold keepR
      rw [List.map_append, List.filter_append]
      by_cases h2 : (clipR (partL p star).1).1 ≤ (clipR (partL p star).1).2
      · simp [h2]
      · simp [h2]
    · rw [if_neg h, if_neg h]
      rfl

theorem has_keep (l : List Rg) (n : Int) : Has (keepR l) n ↔ 1 ≤ n ∧ Has l n := by
  unfold Has keepR
  constructor
  · rintro ⟨x, hx, h1, h2⟩
    obtain ⟨hm, _⟩ := List.mem_filter.1 hx
    obtain ⟨y, hy, rfl⟩ := List.mem_map.1 hm
    simp only [clipR] at h1 h2
    refine ⟨by split at h1 <;> omega, y, hy, by split at h1 <;> omega, h2⟩
  · rintro ⟨h0, y, hy, h1, h2⟩
    refine ⟨clipR y, List.mem_filter.2 ⟨List.mem_map_of_mem hy, ?_⟩, ?_, h2⟩
    · show decide ((clipR y).1 ≤ (clipR y).2) = true
      rw [decide_eq_true_eq]
      simp only [clipR]
      split <;> omega
    · simp only [clipR]
      split <;> omega
theorem has_perm {l m : List Rg} (h : l.Perm m) (n : Int) : Has l n ↔ Has m n := by
  unfold Has
  exact ⟨fun ⟨x, hx, hh⟩ => ⟨x, h.mem_iff.1 hx, hh⟩, fun ⟨x, hx, hh⟩ => ⟨x, h.mem_iff.2 hx, hh⟩⟩

theorem merge_keep (l : List Rg) : mergeR (keepR l) = rGo l := by
  refine merge_same l (sortedR (keepR l)) (fun x hx => ?_) (sortedR_low _) (fun n => ?_)
  · have h1 := (sortedR_perm (keepR l)).mem_iff.1 hx
    have h2 := (List.mem_filter.1 h1).2
    simpa using h2
  · rw [has_perm (sortedR_perm (keepR l)), has_keep]

/-- The program's reading is the reference's. -/
theorem readL_eq (l : List UInt8) (star : Int) : readL l star = refReadL l star := by
  unfold readL refReadL
  split
  · rfl
  · have h := readGo_ref star (piecesC 44 l) []
    have e : keepR [] = [] := rfl
    rw [e] at h
    rw [h]
    cases refGo star (piecesC 44 l) [] with
    | none => rfl
    | some a => simp [merge_keep]

/- the digits of a number are just that number -/
theorem dec_digit (d : Nat) (h : d < 10) : (UInt8.ofNat (48 + d)).toNat = 48 + d := by
  simp
  omega
theorem numGo_append (a b : List UInt8) (n : Int) : numGo (a ++ b) n = (numGo a n).bind (numGo b) := by
  induction a generalizing n with
  | nil => rfl
  | cons c a ih =>
    rw [List.cons_append]
    unfold numGo
    split
    · rfl
    · exact ih _
theorem numGo_one (d : Nat) (h : d < 10) (n : Int) : numGo [UInt8.ofNat (48 + d)] n = some (n * 10 + d) := by
  unfold numGo
  rw [dec_digit d h, if_neg (by omega)]
  unfold numGo
  congr 1
  omega
theorem numGo_dec (k : Nat) : numGo (decDigits k) 0 = some (k : Int) := by
  induction k using Nat.strongRecOn with
  | _ k ih =>
    by_cases h : k < 10
    · rw [decDigits_one h, numGo_one k h]
      simp
    · rw [decDigits_more k (by omega), numGo_append, ih (k / 10) (by omega)]
      simp only [Option.bind_some]
      rw [numGo_one (k % 10) (by omega)]
      congr 1
      omega
theorem dec_ne (k : Nat) : decDigits k ≠ [] := by
  by_cases h : k < 10
  · rw [decDigits_one h]
    simp
  · rw [decDigits_more k (by omega)]
    simp
theorem dec_head (k : Nat) (hk : 1 ≤ k) : (decDigits k).head? ≠ some 48 := by
  induction k using Nat.strongRecOn with
  | _ k ih =>
    by_cases h : k < 10
    · rw [decDigits_one h]
      intro e
      simp only [List.head?_cons, Option.some.injEq] at e
      have := congrArg UInt8.toNat e
      rw [dec_digit k h] at this
      have h48 : (48 : UInt8).toNat = 48 := rfl
      omega
    · rw [decDigits_more k (by omega), List.head?_append]
      have := ih (k / 10) (by omega) (by omega)
      cases hh : (decDigits (k / 10)).head? with
      | none => exact absurd (List.head?_eq_none_iff.1 hh) (dec_ne _)
      | some c =>
        rw [hh] at this
        simpa using this
theorem dec_rng (k : Nat) : ∀ c ∈ decDigits k, 48 ≤ c.toNat ∧ c.toNat ≤ 57 := by
  induction k using Nat.strongRecOn with
  | _ k ih =>
    intro c hc
    by_cases h : k < 10
    · rw [decDigits_one h] at hc
      rw [List.mem_singleton.1 hc, dec_digit k h]
      omega
    · rw [decDigits_more k (by omega)] at hc
      rcases List.mem_append.1 hc with hc | hc
      · exact ih (k / 10) (by omega) c hc
      · rw [List.mem_singleton.1 hc, dec_digit (k % 10) (by omega)]
        omega
theorem dec_len10 (k : Nat) (h : k < 10000000000) : (decDigits k).length ≤ 10 := by
  rw [decDigits_length]
  have hn : ∀ (j m : Nat), m < 10 ^ (j + 1) → nDigits m ≤ j + 1 := by
    intro j
    induction j with
    | zero =>
      intro m hm
      rw [nDigits_small (by omega)]
      omega
    | succ j ih =>
      intro m hm
      by_cases hs : m < 10
      · rw [nDigits_small hs]
        omega
      · have := ih (m / 10) (by rw [Nat.pow_succ] at hm; omega)
        unfold nDigits
        rw [dif_neg hs]
        omega
  exact hn 9 k (by omega)

theorem numberL_dig (n : Int) (h1 : 1 ≤ n) (h2 : n ≤ 4294967295) : numberL (digN n) = (n, true) := by
  obtain ⟨k, rfl⟩ : ∃ k : Nat, n = k := ⟨n.toNat, by omega⟩
  have hd : digN (k : Int) = decDigits k := by unfold digN; simp
  rw [hd]
  unfold numberL
  have hl := dec_len10 k (by omega)
  rw [if_neg, numGo_dec]
  · simp only
    rw [if_neg (by omega)]
  · rintro (h | h | ⟨h, _⟩)
    · exact dec_ne _ h
    · omega
    · exact dec_head k (by omega) h
theorem dig_no (n : Int) (c : UInt8) (h : c.toNat < 48 ∨ 57 < c.toNat) : ∀ b ∈ digN n, b ≠ c := by
  intro b hb e
  have := dec_rng _ b hb
  rw [e] at this
  omega
theorem dig_star (n : Int) : digN n ≠ [42] := fun h => dig_no n 42 (.inl (by decide)) 42 (by rw [h]; simp) rfl
theorem boundL_dig (n star : Int) (h1 : 1 ≤ n) (h2 : n ≤ 4294967295) : boundL (digN n) star = (n, true) := by
  unfold boundL
  rw [if_neg (dig_star n), numberL_dig n h1 h2]
  simp
  omega

theorem index_no (l : List UInt8) (c : UInt8) (h : ∀ b ∈ l, b ≠ c) : index l [c] = -1 := by
  induction l with
  | nil => rfl
  | cons b l ih =>
    rw [index_one_cons, if_neg (h b List.mem_cons_self), ih fun x hx => h x (List.mem_cons_of_mem _ hx), if_pos rfl]
theorem index_mid (a b : List UInt8) (c : UInt8) (h : ∀ x ∈ a, x ≠ c) : index (a ++ c :: b) [c] = (a.length : Int) := by
  induction a with
  | nil => rw [List.nil_append, index_one_cons, if_pos rfl]; rfl
  | cons x a ih =>
    rw [List.cons_append, index_one_cons, if_neg (h x List.mem_cons_self), ih fun y hy => h y (List.mem_cons_of_mem _ hy), if_neg (by omega)]
    simp
theorem cutL_no (l : List UInt8) (h : ∀ b ∈ l, b ≠ 58) : cutL l = (l, l) := cut_miss l (index_no l 58 h)
theorem cutL_mid (a b : List UInt8) (h : ∀ x ∈ a, x ≠ 58) : cutL (a ++ 58 :: b) = (a, b) := by
  rw [cut_hit _ a.length (index_mid a b 58 h)]
  simp

/-- The range of two numbers. -/
def rng2 (a b : Int) : Rg := (if b < a then b else a, if a < b then b else a)
theorem partL_two (a b : List UInt8) (star x y : Int) (h : ∀ c ∈ a, c ≠ 58) (ha : boundL a star = (x, true)) (hb : boundL b star = (y, true)) : partL (a ++ 58 :: b) star = (rng2 x y, true) := by
  unfold partL
  rw [cutL_mid a b h, ha, hb]
  rfl
theorem partL_one (a : List UInt8) (star x : Int) (h : ∀ c ∈ a, c ≠ 58) (ha : boundL a star = (x, true)) : partL a star = ((x, x), true) := by
  unfold partL
  rw [cutL_no a h, ha]
  simp
theorem has_rng2 (a b n : Int) (l : List Rg) : Has (rng2 a b :: l) n ↔ ((a ≤ n ∧ n ≤ b) ∨ (b ≤ n ∧ n ≤ a)) ∨ Has l n := by
  rw [has_cons]
  unfold rng2
  simp only
  constructor
  · rintro (h | h)
    · left
      split at h <;> split at h <;> omega
    · exact .inr h
  · rintro (h | h)
    · left
      split <;> split <;> omega
    · exact .inr h

end Go.Proofs.YtnfabgbidkddhaaGreatDoor
