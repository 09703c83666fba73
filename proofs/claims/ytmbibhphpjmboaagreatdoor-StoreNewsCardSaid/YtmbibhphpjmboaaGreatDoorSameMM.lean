/-
  The reference's comparison of two lists of emails: two that are the same.
-/
import Derived.Test.YtmbibhphpjmboaaGreatDoorGM
import Derived.Deep.QuietTactic
import Derived.BigQuiet
import Derived.Deep.DeepCutAuto
import Derived.Deep.CutBlock
namespace Go.Proofs.YtmbibhphpjmboaaGreatDoor
open Go.Shelf Go.RowKit
attribute [local go_sem ↓] Go.wp_at_zero Go.wp_at_succ

set_option maxRecDepth 100000 in
set_option maxHeartbeats 4000000 in
theorem textsSame_any (v1 v2 : Value) (S1 S2 : List Nat) (l : Texts) (w : World) (h1 : RdS w S1 1 v1 l.length (l.map encStr)) (h2 : RdS w S2 1 v2 l.length (l.map encStr)) (hn : l.length ≤ 1099511627776) :
    Calls Tryz.prog 93 #[v1, v2] w fun e w' => e = .returned (.bool true) ∧ Below w.heap.size w w' := by
  obtain ⟨A1, c1, hv1, _, _⟩ := h1.form
  obtain ⟨A2, c2, hv2, _, _⟩ := h2.form
  subst hv1 hv2
  obtain ⟨n, hnn⟩ : ∃ n, l.length = n := ⟨_, rfl⟩
  have HR1 := Lib.hid h1
  have HR2 := Lib.hid h2
  have HNN := Lib.hid hnn
  rw [hnn] at hn ⊢
  clear h1 h2 hnn
  go_enter Tryz.func93, Tryz.ntmps93
  go_wp2_with fail
  go_loopw [5] (fun iv wr => ∃ k : Nat, k ≤ n ∧ iv = .int .i64 k ∧ Hid (Below w.heap.size w wr)) (fun iv _ => n - (intOf iv).toNat)
  case atStart => exact ⟨0, Nat.zero_le _, rfl, Lib.hid (Below.refl _ _)⟩
  case round =>
    obtain ⟨k, hk, rfl, HB⟩ := hrel
    by_cases hlt : k < n
    · have hltz : (k : Int) < (n : Int) := by omega
      have hk0 : (0 : Int) ≤ (k : Int) := by omega
      have hkl : k < l.length := by rw [HNN.out]; exact hlt
      have hkw : IntKind.i64.wrap ((k : Int) + 1) = (k : Int) + 1 := IntWalk.i64_in _ (by omega)
      obtain ⟨y, hy⟩ : ∃ y, l[k] = y := ⟨_, rfl⟩
      obtain ⟨b1, o1, c1', hv1, _, _, hl1, _, hat1⟩ := HR1.out.at_ (by omega)
      obtain ⟨b2, o2, c2', hv2, _, _, hl2, _, hat2⟩ := HR2.out.at_ (by omega)
      have e1 := (Value.slice.inj hv1).1
      have e2 := (Value.slice.inj hv2).1
      subst e1 e2
      have p0 : wr.cell? ⟨b1, o1 + k, none⟩ = some (.string ⟨y.toArray⟩) := by
        refine (HB.out.cell hl1).trans ((hat1 k (by omega)).trans ?_)
        rw [List.getElem?_map, List.getElem?_eq_getElem hkl, hy]
        rfl
      have q0 : wr.cell? ⟨b2, o2 + k, none⟩ = some (.string ⟨y.toArray⟩) := by
        refine (HB.out.cell hl2).trans ((hat2 k (by omega)).trans ?_)
        rw [List.getElem?_map, List.getElem?_eq_getElem hkl, hy]
        rfl
      clear hat1 hat2 hv1 hv2 hy
      go_wp2_with fail
      go_quiet (fail)
      go_wp2_with fail
      refine ⟨?_, by simp [intOf]; omega⟩
      first | exact ⟨k + 1, by omega, by go_num, Lib.hid (below_drewN' HB.out _)⟩ | ((repeat apply Exists.intro); exact ⟨⟨k + 1, by omega, by go_num, Lib.hid (below_drewN' HB.out _)⟩, rfl⟩)
    · have hltz : ¬ (k : Int) < (n : Int) := by omega
      go_wp2_with fail
      go_ret
      exact ⟨rfl, HB.out⟩

theorem MailsAt.at_ {w : World} {S : List Nat} {v : Value} {l : List MailP} (h : MailsAt w S v l) : ∃ A c, v = .slice A l.length c ∧ (∀ k (hk : k < l.length), ∃ b off, A = some ⟨b, off, none⟩ ∧ b < w.heap.size ∧ ∃ m : MailM, m.p = l[k] ∧ PartAt w S m ∧ ∀ j, j < 8 → w.cell? ⟨b, off + k * 8 + j, none⟩ = (encM m)[j]?) := by
  obtain ⟨ms, hms, hr, hp⟩ := h
  obtain ⟨A, c, hv, _, _⟩ := hr.form
  have hl : ms.length = l.length := by rw [← hms]; simp
  refine ⟨A, c, by rw [← hl]; exact hv, fun k hk => ?_⟩
  obtain ⟨b, off, cap, hv2, _, _, hlt, _, hat⟩ := hr.at_ (by omega)
  rw [hv] at hv2
  have e1 := (Value.slice.inj hv2).1
  have hk2 : k < ms.length := by omega
  refine ⟨b, off, e1, hlt, ms[k], ?_, hp _ (List.getElem_mem hk2), fun j hj => ?_⟩
  · subst hms
    simp
  · rw [Nat.add_assoc, hat (k * 8 + j) (by omega), flatG_get encM_length ms k j hk2 hj]

theorem two_blk (w : World) (t : TypeId) (c1 c2 : Array Value) : Blk (((w.alloc (.cells c1 t)).alloc (.cells c2 t)).drew) w.heap.size t c1 ∧ Blk (((w.alloc (.cells c1 t)).alloc (.cells c2 t)).drew) (w.heap.size + 1) t c2 := by
  refine ⟨((Blk.new w t c1).alloc _).heap (by rfl), ?_⟩
  have h := (Blk.new (w.alloc (.cells c1 t)) t c2).heap (w' := ((w.alloc (.cells c1 t)).alloc (.cells c2 t)).drew) (by rfl)
  rw [World.size_alloc] at h
  exact h

set_option maxRecDepth 100000 in
set_option maxHeartbeats 8000000 in
theorem sameM_any (v1 v2 : Value) (S1 S2 : List Nat) (l : List MailP) (w : World) (h1 : MailsAt w S1 v1 l) (h2 : MailsAt w S2 v2 l) (hn : l.length ≤ 1099511627776) (hs : ∀ m ∈ l, m.keys.length ≤ 1099511627776 ∧ m.members.length ≤ 1099511627776) :
    Calls Tryz.prog 36 #[v1, v2] w fun e w' => e = .returned (.bool true) ∧ Below w.heap.size w w' := by
  obtain ⟨A1, c1, hv1, g1⟩ := h1.at_
  obtain ⟨A2, c2, hv2, g2⟩ := h2.at_
  subst hv1 hv2
  obtain ⟨n, hnn⟩ : ∃ n, l.length = n := ⟨_, rfl⟩
  have HG1 := Lib.hid g1
  have HG2 := Lib.hid g2
  have HNN := Lib.hid hnn
  have HS := Lib.hid hs
  rw [hnn] at hn ⊢
  clear h1 h2 hnn g1 g2 hs
  go_enter Tryz.func36, Tryz.ntmps36
  go_wp2_with fail
  go_loopw [5] (fun iv wr => ∃ k : Nat, k ≤ n ∧ iv = .int .i64 k ∧ Hid (Below w.heap.size w wr)) (fun iv _ => n - (intOf iv).toNat)
  case atStart => exact ⟨0, Nat.zero_le _, rfl, Lib.hid (Below.refl _ _)⟩
  case round =>
    obtain ⟨k, hk, rfl, HB⟩ := hrel
    by_cases hlt : k < n
    · have hltz : (k : Int) < (n : Int) := by omega
      have hk0 : (0 : Int) ≤ (k : Int) := by omega
      have hkl : k < l.length := by rw [HNN.out]; exact hlt
      have hkw : IntKind.i64.wrap ((k : Int) + 1) = (k : Int) + 1 := IntWalk.i64_in _ (by omega)
      obtain ⟨b1, o1, rfl, hl1, m1, hm1, hp1, hat1⟩ := HG1.out k hkl
      obtain ⟨b2, o2, rfl, hl2, m2, hm2, hp2, hat2⟩ := HG2.out k hkl
      obtain ⟨y, hy⟩ : ∃ y, l[k] = y := ⟨_, rfl⟩
      have hys := HS.out l[k] (List.getElem_mem hkl)
      rw [hy] at hm1 hm2 hys
      obtain ⟨p1, kv1, mv1⟩ := m1
      obtain ⟨p2, kv2, mv2⟩ := m2
      simp only at hm1 hm2
      obtain rfl : p2 = p1 := hm2.trans hm1.symm
      obtain rfl : y = p2 := hm1.symm
      obtain ⟨Ak1, ck1, hkv1, _, _⟩ := hp1.keys.form
      obtain ⟨Am1, cm1, hmv1, _, _⟩ := hp1.mem.form
      obtain ⟨Ak2, ck2, hkv2, _, _⟩ := hp2.keys.form
      obtain ⟨Am2, cm2, hmv2, _, _⟩ := hp2.mem.form
      simp only at hmv1 hmv2 hkv1 hkv2
      subst hmv1 hmv2 hkv1 hkv2
      have hc1 : ∀ j, j < 8 → wr.cell? ⟨b1, o1 + k * 8 + j, none⟩ = (encM ⟨y, .slice Ak1 y.keys.length ck1, .slice Am1 y.members.length cm1⟩)[j]? := fun j hj => (HB.out.cell hl1).trans (hat1 j hj)
      have hc2 : ∀ j, j < 8 → wr.cell? ⟨b2, o2 + k * 8 + j, none⟩ = (encM ⟨y, .slice Ak2 y.keys.length ck2, .slice Am2 y.members.length cm2⟩)[j]? := fun j hj => (HB.out.cell hl2).trans (hat2 j hj)
      have HP1 := Lib.hid hp1
      have HP2 := Lib.hid hp2
      have x0 : wr.cell? ⟨b1, o1 + k * 8, none⟩ = some (.int .i64 y.id) := hc1 0 (by omega)
      have x1 : wr.cell? ⟨b1, o1 + k * 8 + 1, none⟩ = some (.int .i64 y.thread) := hc1 1 (by omega)
      have x2 : wr.cell? ⟨b1, o1 + k * 8 + 2, none⟩ = some (.string ⟨y.text.toArray⟩) := hc1 2 (by omega)
      have x3 : wr.cell? ⟨b1, o1 + k * 8 + 3, none⟩ = some (.int .i64 y.at_) := hc1 3 (by omega)
      have x4 : wr.cell? ⟨b1, o1 + k * 8 + 4, none⟩ = some (.slice Ak1 y.keys.length ck1) := hc1 4 (by omega)
      have x5 : wr.cell? ⟨b1, o1 + k * 8 + 5, none⟩ = some (.slice Am1 y.members.length cm1) := hc1 5 (by omega)
      have x6 : wr.cell? ⟨b1, o1 + k * 8 + 6, none⟩ = some (.int .i64 y.mod) := hc1 6 (by omega)
      have x7 : wr.cell? ⟨b1, o1 + k * 8 + 7, none⟩ = some (.int .i64 y.born) := hc1 7 (by omega)
      have y0 : wr.cell? ⟨b2, o2 + k * 8, none⟩ = some (.int .i64 y.id) := hc2 0 (by omega)
      have y1 : wr.cell? ⟨b2, o2 + k * 8 + 1, none⟩ = some (.int .i64 y.thread) := hc2 1 (by omega)
      have y2 : wr.cell? ⟨b2, o2 + k * 8 + 2, none⟩ = some (.string ⟨y.text.toArray⟩) := hc2 2 (by omega)
      have y3 : wr.cell? ⟨b2, o2 + k * 8 + 3, none⟩ = some (.int .i64 y.at_) := hc2 3 (by omega)
      have y4 : wr.cell? ⟨b2, o2 + k * 8 + 4, none⟩ = some (.slice Ak2 y.keys.length ck2) := hc2 4 (by omega)
      have y5 : wr.cell? ⟨b2, o2 + k * 8 + 5, none⟩ = some (.slice Am2 y.members.length cm2) := hc2 5 (by omega)
      have y6 : wr.cell? ⟨b2, o2 + k * 8 + 6, none⟩ = some (.int .i64 y.mod) := hc2 6 (by omega)
      have y7 : wr.cell? ⟨b2, o2 + k * 8 + 7, none⟩ = some (.int .i64 y.born) := hc2 7 (by omega)
      have hl1' : b1 < wr.heap.size := Nat.lt_of_lt_of_le hl1 HB.out.size
      have hl2' : b2 < wr.heap.size := Nat.lt_of_lt_of_le hl2 HB.out.size
      clear hc1 hc2 hat1 hat2 hy hp1 hp2
      go_upto_region 6 with (fail)
      go_cut [6, 7] (fun t6 t7 wx => ∃ B1 B2, t6 = .pointer (some ⟨B1, 0, none⟩) ∧ t7 = .pointer (some ⟨B2, 0, none⟩) ∧ Hid (Below wr.heap.size wr wx) ∧ Hid (Blk wx B1 40 #[.int .i64 y.id, .int .i64 y.thread, .string ⟨y.text.toArray⟩, .int .i64 y.at_, .slice Ak1 y.keys.length ck1, .slice Am1 y.members.length cm1, .int .i64 y.mod, .int .i64 y.born]) ∧ Hid (Blk wx B2 40 #[.int .i64 y.id, .int .i64 y.thread, .string ⟨y.text.toArray⟩, .int .i64 y.at_, .slice Ak2 y.keys.length ck2, .slice Am2 y.members.length cm2, .int .i64 y.mod, .int .i64 y.born]))
      case first =>
        go_region_with fail
        all_goals
          go_wp2_with fail
          go_meet
          first
          | exact ⟨_, _, rfl, rfl, Lib.hid (below_then (below_then (below_alloc1 _ _) (below_alloc1 _ _)) (below_drew1 _)), Lib.hid (two_blk _ _ _ _).1, Lib.hid (two_blk _ _ _ _).2⟩
          | exact ⟨_, _, rfl, rfl, Lib.hid (below_then (below_then (below_alloc1 _ _) (below_alloc1 _ _)) (below_drew1 _)), Lib.hid (two_blk _ _ _ _).2, Lib.hid (two_blk _ _ _ _).1⟩
      case rest =>
        obtain ⟨B1, B2, rfl, rfl, HBX, HK1, HK2⟩ := hcut
        obtain ⟨wm, rfl⟩ : ∃ wm : World, wm = wc := ⟨_, rfl⟩
        have hbm := below_then HB.out HBX.out
        obtain ⟨nk, hnk⟩ : ∃ nk, y.keys.length = nk := ⟨_, rfl⟩
        obtain ⟨nm, hnm⟩ : ∃ nm, y.members.length = nm := ⟨_, rfl⟩
        have htx := textsSame_any _ _ S1 S2 y.keys wm (HP1.out.keys.below hbm) (HP2.out.keys.below hbm) hys.1
        simp only at htx
        rw [hnk] at htx
        rw [hnk, hnm] at HK1 HK2
        have HBM := Lib.hid hbm
        have HNM := Lib.hid hnm
        have hnmb : nm ≤ 1099511627776 := by rw [← hnm]; exact hys.2
        clear hbm hnk hnm hys x0 x1 x2 x3 x4 x5 x6 x7 y0 y1 y2 y3 y4 y5 y6 y7
        have s0 : wm.cell? ⟨B1, 0, none⟩ = some (.int .i64 y.id) := HK1.out.cell 0
        have s1 : wm.cell? ⟨B1, 1, none⟩ = some (.int .i64 y.thread) := HK1.out.cell 1
        have s2 : wm.cell? ⟨B1, 2, none⟩ = some (.string ⟨y.text.toArray⟩) := HK1.out.cell 2
        have s3 : wm.cell? ⟨B1, 3, none⟩ = some (.int .i64 y.at_) := HK1.out.cell 3
        have s4 : wm.cell? ⟨B1, 4, none⟩ = some (.slice Ak1 nk ck1) := HK1.out.cell 4
        have r0 : wm.cell? ⟨B2, 0, none⟩ = some (.int .i64 y.id) := HK2.out.cell 0
        have r1 : wm.cell? ⟨B2, 1, none⟩ = some (.int .i64 y.thread) := HK2.out.cell 1
        have r2 : wm.cell? ⟨B2, 2, none⟩ = some (.string ⟨y.text.toArray⟩) := HK2.out.cell 2
        have r3 : wm.cell? ⟨B2, 3, none⟩ = some (.int .i64 y.at_) := HK2.out.cell 3
        have r4 : wm.cell? ⟨B2, 4, none⟩ = some (.slice Ak2 nk ck2) := HK2.out.cell 4
        go_upto_block 2 with (first
          | (go_at_call 93; refine htx.mono ?_; rintro e w8 ⟨rfl, hb8⟩; have k1 := HK1.out.below hb8 HK1.out.lt; have k2 := HK2.out.below hb8 HK2.out.lt; have u5 : w8.cell? ⟨B1, 5, none⟩ = some (.slice Am1 nm cm1) := k1.cell 5; have u6 : w8.cell? ⟨B1, 6, none⟩ = some (.int .i64 y.mod) := k1.cell 6; have u7 : w8.cell? ⟨B1, 7, none⟩ = some (.int .i64 y.born) := k1.cell 7; have v5 : w8.cell? ⟨B2, 5, none⟩ = some (.slice Am2 nm cm2) := k2.cell 5; have v6 : w8.cell? ⟨B2, 6, none⟩ = some (.int .i64 y.mod) := k2.cell 6; have v7 : w8.cell? ⟨B2, 7, none⟩ = some (.int .i64 y.born) := k2.cell 7; have HK81 := Lib.hid k1; have HK82 := Lib.hid k2; have HB8 := Lib.hid (below_then HBM.out hb8); clear htx hb8 k1 k2)
          | fail)
        clear s0 s1 s2 s3 s4 r0 r1 r2 r3 r4 u5 u6 u7 v5 v6 v7
        go_wp2_with fail
        go_loopw [8] (fun jv wr => ∃ j : Nat, j ≤ nm ∧ jv = .int .i64 j ∧ Hid (Below w8.heap.size w8 wr)) (fun jv _ => nm - (intOf jv).toNat)
        case atStart => exact ⟨0, Nat.zero_le _, rfl, Lib.hid (Below.refl _ _)⟩
        case round =>
          obtain ⟨j, hj, rfl, HB9⟩ := hrel
          have u5 : wr.cell? ⟨B1, 5, none⟩ = some (.slice Am1 nm cm1) := (HK81.out.below HB9.out HK81.out.lt).cell 5
          have v5 : wr.cell? ⟨B2, 5, none⟩ = some (.slice Am2 nm cm2) := (HK82.out.below HB9.out HK82.out.lt).cell 5
          by_cases hltj : j < nm
          · have hltjz : (j : Int) < (nm : Int) := by omega
            have hj0 : (0 : Int) ≤ (j : Int) := by omega
            have hjl : j < y.members.length := by rw [HNM.out]; exact hltj
            have hjw : IntKind.i64.wrap ((j : Int) + 1) = (j : Int) + 1 := IntWalk.i64_in _ (by omega)
            obtain ⟨d1, f1, c1'', hv1, _, _, hd1, _, hat1⟩ := HP1.out.mem.at_ (by show 0 < y.members.length; omega)
            obtain ⟨d2, f2, c2'', hv2, _, _, hd2, _, hat2⟩ := HP2.out.mem.at_ (by show 0 < y.members.length; omega)
            have e1 := (Value.slice.inj hv1).1
            have e2 := (Value.slice.inj hv2).1
            subst e1 e2
            obtain ⟨z, hz⟩ : ∃ z, y.members[j] = z := ⟨_, rfl⟩
            have hbw := below_then HB8.out HB9.out
            have hc1 : ∀ t, t < 2 → wr.cell? ⟨d1, f1 + j * 2 + t, none⟩ = (encMem z)[t]? := fun t ht => by
              rw [Nat.add_assoc]
              refine (hbw.cell hd1).trans ((hat1 (j * 2 + t) (by show j * 2 + t < y.members.length * 2; omega)).trans ?_)
              show (flatG encMem y.members)[j * 2 + t]? = _
              rw [flatG_get encMem_length y.members j t hjl ht, hz]
            have hc2 : ∀ t, t < 2 → wr.cell? ⟨d2, f2 + j * 2 + t, none⟩ = (encMem z)[t]? := fun t ht => by
              rw [Nat.add_assoc]
              refine (hbw.cell hd2).trans ((hat2 (j * 2 + t) (by show j * 2 + t < y.members.length * 2; omega)).trans ?_)
              show (flatG encMem y.members)[j * 2 + t]? = _
              rw [flatG_get encMem_length y.members j t hjl ht, hz]
            have m0 : wr.cell? ⟨d1, f1 + j * 2, none⟩ = some (.int .i64 z.1) := hc1 0 (by omega)
            have m1 : wr.cell? ⟨d1, f1 + j * 2 + 1, none⟩ = some (.int .i64 z.2) := hc1 1 (by omega)
            have n0 : wr.cell? ⟨d2, f2 + j * 2, none⟩ = some (.int .i64 z.1) := hc2 0 (by omega)
            have n1 : wr.cell? ⟨d2, f2 + j * 2 + 1, none⟩ = some (.int .i64 z.2) := hc2 1 (by omega)
            clear hc1 hc2 hat1 hat2 hv1 hv2 hz hbw
            go_wp2_with fail
            go_quiet (fail)
            go_wp2_with fail
            refine ⟨?_, by simp [intOf]; omega⟩
            first | exact ⟨j + 1, by omega, by go_num, Lib.hid (below_drewN' HB9.out _)⟩ | ((repeat apply Exists.intro); exact ⟨⟨j + 1, by omega, by go_num, Lib.hid (below_drewN' HB9.out _)⟩, rfl⟩)
          · have hltjz : ¬ (j : Int) < (nm : Int) := by omega
            have HBN := Lib.hid (below_then HB8.out HB9.out)
            go_wp2_with fail
            refine ⟨?_, by simp [intOf]; omega⟩
            first | exact ⟨k + 1, by omega, by go_num, HBN⟩ | ((repeat apply Exists.intro); exact ⟨⟨k + 1, by omega, by go_num, HBN⟩, rfl⟩)
    · have hltz : ¬ (k : Int) < (n : Int) := by omega
      go_wp2_with fail
      go_ret
      exact ⟨rfl, HB.out⟩

end Go.Proofs.YtmbibhphpjmboaaGreatDoor
