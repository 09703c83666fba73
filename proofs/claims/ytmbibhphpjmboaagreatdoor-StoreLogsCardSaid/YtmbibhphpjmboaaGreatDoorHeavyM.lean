/-
  The walks of the laws' Heavy and Config.
-/
import Derived.Test.YtmbibhphpjmboaaGreatDoorGV
import Derived.Deep.QuietTactic
namespace Go.Proofs.YtmbibhphpjmboaaGreatDoor
open Go.Shelf Go.RowKit
attribute [local go_sem ↓] Go.wp_at_zero Go.wp_at_succ

theorem heavyL_yes {l : List ActP} {k : Nat} (hk : k < l.length) (h60 : k < 60) (hg : greatA l[k] = true) : heavyL l = true := by
  unfold heavyL
  rw [Bool.or_eq_true]
  left
  rw [List.any_eq_true]
  refine ⟨l[k], ?_, hg⟩
  have h1 : k < (l.take 60).length := by rw [List.length_take]; omega
  have h2 : (l.take 60)[k] = l[k] := List.getElem_take
  rw [← h2]
  exact List.getElem_mem h1
theorem heavyL_end {l : List ActP} (h : ∀ j (hj : j < l.length), j < 60 → greatA l[j] = false) : heavyL l = decide (60 < l.length) := by
  unfold heavyL
  have h1 : (l.take 60).any greatA = false := by
    rw [List.any_eq_false]
    intro a ha
    obtain ⟨j, hj, rfl⟩ := List.getElem_of_mem ha
    rw [List.length_take] at hj
    rw [List.getElem_take, h j (by omega) (by omega)]
    simp
  rw [h1, Bool.false_or]

set_option maxRecDepth 100000 in
set_option maxHeartbeats 4000000 in
theorem heavy_any (v : Value) (l : List ActM) (w : World) (hr : RdS w [] 6 v l.length (flatG encAct l)) (ha : ∀ a ∈ l, ActR w a) :
    Calls Tryz.prog 33 #[v] w fun e w' => e = .returned (.bool (heavyL (l.map (·.p)))) ∧ Below w.heap.size w w' := by
  obtain ⟨A, cap, hv, hnc, hcm⟩ := hr.form
  subst hv
  obtain ⟨n, hnn⟩ : ∃ n, l.length = n := ⟨_, rfl⟩
  obtain ⟨r, hrr⟩ : ∃ r, heavyL (l.map (·.p)) = r := ⟨_, rfl⟩
  have hyes : ∀ k (hk : k < l.length), k < 60 → greatA l[k].p = true → r = true := fun k hk h60 hg => by
    rw [← hrr]
    exact heavyL_yes (k := k) (by simpa using hk) h60 (by simpa using hg)
  have hno : (∀ j (hj : j < l.length), j < 60 → greatA l[j].p = false) → r = decide (60 < n) := fun h => by
    rw [← hrr, heavyL_end (fun j hj h6 => by simpa using h j (by simpa using hj) h6), List.length_map, hnn]
  have HYES := Lib.hid hyes
  have HNO := Lib.hid hno
  have HR := Lib.hid hr
  have HA := Lib.hid ha
  have HNN := Lib.hid hnn
  rw [hnn] at hnc ⊢
  rw [hrr]
  clear hr ha hnn hrr hyes hno
  go_enter Tryz.func33, Tryz.ntmps33
  go_wp2_with fail
  go_loopw [3] (fun iv wr => ∃ k : Nat, k ≤ n ∧ k ≤ 60 ∧ iv = .int .i64 k ∧ Hid (∀ j (hj : j < l.length), j < k → greatA l[j].p = false) ∧ Hid (Below w.heap.size w wr)) (fun iv _ => 60 - (intOf iv).toNat)
  case atStart => exact ⟨0, Nat.zero_le _, by omega, rfl, Lib.hid (fun _ _ h => absurd h (by omega)), Lib.hid (Below.refl _ _)⟩
  case round =>
    obtain ⟨k, hk, hk6, rfl, HG, HB⟩ := hrel
    by_cases hlt : k < n
    · have hltz : (k : Int) < (n : Int) := by omega
      by_cases h60 : k < 60
      · have h60z : (k : Int) < 60 := by omega
        have hkl : k < l.length := by rw [HNN.out]; exact hlt
        have hk0 : (0 : Int) ≤ (k : Int) := by omega
        have hkw : IntKind.i64.wrap ((k : Int) + 1) = (k : Int) + 1 := IntWalk.i64_in _ (by omega)
        obtain ⟨a, hak⟩ : ∃ a, l[k] = a := ⟨_, rfl⟩
        obtain ⟨b1, o1, c1', hv1, _, _, hl1, _, hat1⟩ := HR.out.at_ (by omega)
        have e1 := (Value.slice.inj hv1).1
        subst e1
        have har := HA.out l[k] (List.getElem_mem hkl)
        rw [hak] at har
        obtain ⟨⟨op, id, at_, nm, bs, ks⟩, vb, vk⟩ := a
        obtain ⟨Ab, cb, hvb, _, _⟩ := har.1.form
        obtain ⟨Ak, ck, hvk, _, _⟩ := har.2.form
        simp only at hvb hvk
        subst hvb hvk
        have hc1 : ∀ j, j < 6 → wr.cell? ⟨b1, o1 + k * 6 + j, none⟩ = (encAct ⟨⟨op, id, at_, nm, bs, ks⟩, .slice Ab bs.length cb, .slice Ak ks.length ck⟩)[j]? := fun j hj => by
          rw [Nat.add_assoc]
          refine (HB.out.cell hl1).trans ((hat1 (k * 6 + j) (by omega)).trans ?_)
          rw [flatG_get encAct_length l k j hkl hj, hak]
        obtain ⟨n3, hn3⟩ : ∃ n3, nm.length = n3 := ⟨_, rfl⟩
        obtain ⟨n4, hn4⟩ : ∃ n4, bs.length = n4 := ⟨_, rfl⟩
        obtain ⟨n5, hn5⟩ : ∃ n5, ks.length = n5 := ⟨_, rfl⟩
        have p0 : wr.cell? ⟨b1, o1 + k * 6, none⟩ = some (.int .i64 op) := hc1 0 (by omega)
        have p1 : wr.cell? ⟨b1, o1 + k * 6 + 1, none⟩ = some (.int .i64 id) := hc1 1 (by omega)
        have p2 : wr.cell? ⟨b1, o1 + k * 6 + 2, none⟩ = some (.int .i64 at_) := hc1 2 (by omega)
        have p3 : wr.cell? ⟨b1, o1 + k * 6 + 3, none⟩ = some (.string ⟨nm.toArray⟩) := hc1 3 (by omega)
        have p4 : wr.cell? ⟨b1, o1 + k * 6 + 4, none⟩ = some (.slice Ab bs.length cb) := hc1 4 (by omega)
        have p5 : wr.cell? ⟨b1, o1 + k * 6 + 5, none⟩ = some (.slice Ak ks.length ck) := hc1 5 (by omega)
        rw [hn4] at p4
        rw [hn5] at p5
        have hsz : (⟨nm.toArray⟩ : ByteArray).size = n3 := by rw [← hn3]; simp [ByteArray.size]
        have HSZ := Lib.hid hsz
        have hgr : greatA (ActP.mk op id at_ nm bs ks) = (decide (500 < n3) || decide (20 < n4) || decide (40 < n5) || ks.any fun k => decide (100 < k.length)) := by
          rw [← hn3, ← hn4, ← hn5]
          rfl
        have HGR := Lib.hid hgr
        have HAK := Lib.hid hak
        have HAR := Lib.hid har
        have HN5 := Lib.hid hn5
        clear hc1 hat1 hv1 hak hgr har hn3 hn4 hn5 hsz
        have hq := HSZ.out
        by_cases g1 : 500 < n3
        · have hrt : r = true := HYES.out k hkl h60 (by rw [HAK.out, HGR.out]; simp [g1])
          subst hrt
          have g1z : (500 : Int) < (n3 : Int) := by omega
          go_wp2_with fail
          go_ret
          exact ⟨rfl, below_then HB.out (below_alloc1 _ _)⟩
        have g1z : ¬ (500 : Int) < (n3 : Int) := by omega
        by_cases g2 : 20 < n4
        · have hrt : r = true := HYES.out k hkl h60 (by rw [HAK.out, HGR.out]; simp [g2])
          subst hrt
          have g2z : (20 : Int) < (n4 : Int) := by omega
          go_wp2_with fail
          go_ret
          exact ⟨rfl, below_then HB.out (below_alloc1 _ _)⟩
        have g2z : ¬ (20 : Int) < (n4 : Int) := by omega
        by_cases g3 : 40 < n5
        · have hrt : r = true := HYES.out k hkl h60 (by rw [HAK.out, HGR.out]; simp [g3])
          subst hrt
          have g3z : (40 : Int) < (n5 : Int) := by omega
          go_wp2_with fail
          go_ret
          exact ⟨rfl, below_then HB.out (below_alloc1 _ _)⟩
        have g3z : ¬ (40 : Int) < (n5 : Int) := by omega
        have HGA : Hid (greatA (ActP.mk op id at_ nm bs ks) = ks.any fun k => decide (100 < k.length)) := Lib.hid (by rw [HGR.out]; simp [g1, g2, g3])
        go_upto_block 2 with (fail)
        obtain ⟨w1, hw1⟩ : ∃ w1 : World, w1 = wr.alloc (.cells #[.int .i64 op, .int .i64 id, .int .i64 at_, .string ⟨nm.toArray⟩, .slice Ab n4 cb, .slice Ak n5 ck] 66) := ⟨_, rfl⟩
        rw [← hw1]
        obtain ⟨B, hB⟩ : ∃ B, B = wr.heap.size := ⟨_, rfl⟩
        rw [← hB]
        have hb1 : Below w.heap.size w w1 := by rw [hw1]; exact below_then HB.out (below_alloc1 _ _)
        have hbk : Blk w1 B 66 #[.int .i64 op, .int .i64 id, .int .i64 at_, .string ⟨nm.toArray⟩, .slice Ab n4 cb, .slice Ak n5 ck] := by rw [hw1, hB]; exact Blk.new _ _ _
        have HB1 := Lib.hid hb1
        have HBK := Lib.hid hbk
        clear hw1 hB hb1 hbk p0 p1 p2 p3 p4 p5
        have d5 : w1.cell? ⟨B, 5, none⟩ = some (.slice Ak n5 ck) := HBK.out.cell 5
        go_wp2_with fail
        go_loopw [5] (fun jv wr => ∃ j : Nat, j ≤ n5 ∧ jv = .int .i64 j ∧ Hid (∀ t (ht : t < ks.length), t < j → ¬ 100 < ks[t].length) ∧ wr = w1) (fun jv _ => n5 - (intOf jv).toNat)
        case atStart => exact ⟨0, Nat.zero_le _, rfl, Lib.hid (fun _ _ h => absurd h (by omega)), rfl⟩
        case round =>
          obtain ⟨j, hj, rfl, HT, hwr⟩ := hrel
          subst hwr
          by_cases hlt2 : j < n5
          · have hlt2z : (j : Int) < (n5 : Int) := by omega
            have hj0 : (0 : Int) ≤ (j : Int) := by omega
            have hjl : j < ks.length := by rw [HN5.out]; exact hlt2
            have hjw : IntKind.i64.wrap ((j : Int) + 1) = (j : Int) + 1 := IntWalk.i64_in _ (by omega)
            obtain ⟨b2, o2, c2', hv2, _, _, hl2, _, hat2⟩ := HAR.out.2.at_ (by show 0 < ks.length; omega)
            have e2 := (Value.slice.inj hv2).1
            subst e2
            obtain ⟨kt, hkt⟩ : ∃ kt, ks[j] = kt := ⟨_, rfl⟩
            obtain ⟨m, hm⟩ : ∃ m, kt.length = m := ⟨_, rfl⟩
            have q0 : wr.cell? ⟨b2, o2 + j, none⟩ = some (.string ⟨kt.toArray⟩) := by
              refine (HB1.out.cell hl2).trans ((hat2 j (by show j < ks.length * 1; omega)).trans ?_)
              show (ks.map encStr)[j]? = _
              rw [List.getElem?_map, List.getElem?_eq_getElem hjl, hkt]
              rfl
            have hsz2 : (⟨kt.toArray⟩ : ByteArray).size = m := by rw [← hm]; simp [ByteArray.size]
            have HKT := Lib.hid hkt
            have HM := Lib.hid hm
            clear hat2 hv2 hkt hm
            by_cases g4 : 100 < m
            · have g4z : (100 : Int) < (m : Int) := by omega
              have hrt : r = true := HYES.out k hkl h60 (by
                rw [HAK.out, HGA.out, List.any_eq_true]
                exact ⟨ks[j], List.getElem_mem hjl, by rw [HKT.out, HM.out]; simpa using g4⟩)
              subst hrt
              go_wp2_with fail
              go_ret
              exact ⟨rfl, HB1.out⟩
            · have g4z : ¬ (100 : Int) < (m : Int) := by omega
              have HT2 : Hid (∀ t (ht : t < ks.length), t < j + 1 → ¬ 100 < ks[t].length) := Lib.hid (fun t ht h => by
                by_cases htj : t < j
                · exact HT.out t ht htj
                · obtain rfl : t = j := by omega
                  rw [HKT.out, HM.out]
                  exact g4)
              go_wp2_with fail
              refine ⟨?_, by simp [intOf]; omega⟩
              first | exact ⟨j + 1, by omega, by go_num, HT2, rfl⟩ | ((repeat apply Exists.intro); exact ⟨⟨j + 1, by omega, by go_num, HT2, rfl⟩, rfl⟩) | exact ⟨j + 1, by omega, by go_num, HT2, trivial⟩
          · have hlt2z : ¬ (j : Int) < (n5 : Int) := by omega
            have HG0 : Hid (greatA (ActP.mk op id at_ nm bs ks) = false) := Lib.hid (by
              rw [HGA.out, List.any_eq_false]
              intro x hx
              obtain ⟨t, ht, rfl⟩ := List.getElem_of_mem hx
              have := HT.out t ht (by rw [HN5.out] at ht; omega)
              simpa using this)
            have HG2 : Hid (∀ j (hj : j < l.length), j < k + 1 → greatA l[j].p = false) := Lib.hid (fun j hj h => by
              by_cases hjk : j < k
              · exact HG.out j hj hjk
              · obtain rfl : j = k := by omega
                rw [HAK.out]
                exact HG0.out)
            go_wp2_with fail
            refine ⟨?_, by simp [intOf]; omega⟩
            first | exact ⟨k + 1, by omega, by omega, by go_num, HG2, HB1⟩ | ((repeat apply Exists.intro); exact ⟨⟨k + 1, by omega, by omega, by go_num, HG2, HB1⟩, rfl⟩)
      · have hk60 : k = 60 := by omega
        subst hk60
        have h60z : ¬ ((60 : Nat) : Int) < 60 := by omega
        have hgz : (60 : Int) < (n : Int) := by omega
        have hrt : r = true := by
          rw [HNO.out (fun j hj h => HG.out j hj h)]
          exact decide_eq_true hlt
        subst hrt
        go_wp2_with fail
        go_ret
        exact ⟨rfl, HB.out⟩
    · have hkn : k = n := by omega
      subst hkn
      have hltz : ¬ (k : Int) < (k : Int) := by omega
      have hgz : ¬ (60 : Int) < (k : Int) := by omega
      have hrt : r = false := by
        rw [HNO.out (fun j hj _ => HG.out j hj (by have := HNN.out; omega))]
        exact decide_eq_false (by omega)
      subst hrt
      go_wp2_with fail
      go_ret
      exact ⟨rfl, HB.out⟩

def cfgL (a b c d e : Nat) : CfgP := cfgN (1 + ((a % 20 : Nat) : Int)) (1 + ((b % 8 : Nat) : Int)) 4000 (1 + ((c % 40 : Nat) : Int)) (2 + (d : Int)) (1 + (e : Int)) 50

set_option maxRecDepth 100000 in
theorem config_any (a b c d e : Nat) (ha : a ≤ 255) (hb : b ≤ 255) (hc : c ≤ 255) (hd : d ≤ 255) (he : e ≤ 255) (w : World) :
    Calls Tryz.prog 34 #[.int .u8 a, .int .u8 b, .int .u8 c, .int .u8 d, .int .u8 e] w fun e' w' => e' = .returned (.agg #[.string ⟨#[117]⟩, .string ⟨#[112]⟩, .int .i64 (1 + ((a % 20 : Nat) : Int)), .int .i64 (1 + ((b % 8 : Nat) : Int)), .int .i64 4000, .int .i64 (1 + ((c % 40 : Nat) : Int)), .int .i64 (2 + (d : Int)), .int .i64 (1 + (e : Int)), .int .i64 50]) ∧ Below w.heap.size w w' := by
  obtain ⟨x1, hx1⟩ : ∃ x1 : Int, (1 : Int) + (a : Int) % 20 = x1 := ⟨_, rfl⟩
  obtain ⟨x2, hx2⟩ : ∃ x2 : Int, (1 : Int) + (b : Int) % 8 = x2 := ⟨_, rfl⟩
  obtain ⟨x4, hx4⟩ : ∃ x4 : Int, (1 : Int) + (c : Int) % 40 = x4 := ⟨_, rfl⟩
  obtain ⟨x5, hx5⟩ : ∃ x5 : Int, (2 : Int) + (d : Int) = x5 := ⟨_, rfl⟩
  obtain ⟨x6, hx6⟩ : ∃ x6 : Int, (1 : Int) + (e : Int) = x6 := ⟨_, rfl⟩
  have e1 : (1 : Int) + ((a % 20 : Nat) : Int) = x1 := by rw [← hx1]; rfl
  have e2 : (1 : Int) + ((b % 8 : Nat) : Int) = x2 := by rw [← hx2]; rfl
  have e4 : (1 : Int) + ((c % 40 : Nat) : Int) = x4 := by rw [← hx4]; rfl
  rw [e1, e2, e4, hx5, hx6]
  clear e1 e2 e4
  go_enter Tryz.func34, Tryz.ntmps34
  go_wp2_with fail
  refine bodyPost_ret (v := .agg #[.string ⟨#[117]⟩, .string ⟨#[112]⟩, .int .i64 x1, .int .i64 x2, .int .i64 4000, .int .i64 x4, .int .i64 x5, .int .i64 x6, .int .i64 50]) ?_ rfl ⟨rfl, ?_⟩
  · simp [results, Tryz.results34, go_sem]
  · exact below_alloc1 w _

end Go.Proofs.YtmbibhphpjmboaaGreatDoor
