/-
  The walk of the reference's Keys: texts put in one by one.
-/
import Derived.Test.YtkgpflobbmagaaaRefKey
import Derived.Test.YtkgpflobbmagaaaKeysIns
namespace Go.Proofs.Ytkgpflobbmagaaa
open Go.RowKit Go.Sort
attribute [local go_sem ↓] Go.wp_at_zero Go.wp_at_succ

section
variable {α : Type}
theorem shift_get (acc : List α) (k : Nat) (hk : 0 < k) (hkl : k ≤ acc.length) (z : α) : (acc.take k ++ z :: acc.drop k)[k - 1]? = some (acc[k - 1]'(by omega)) := by
  rw [List.getElem?_append_left (by rw [List.length_take]; omega), List.getElem?_take, if_pos (by omega), List.getElem?_eq_getElem (by omega)]
theorem shift_step (acc : List α) (k : Nat) (hk : 0 < k) (hkl : k ≤ acc.length) (z : α) :
    (acc.take k ++ z :: acc.drop k).set k (acc[k - 1]'(by omega)) = acc.take (k - 1) ++ (acc[k - 1]'(by omega)) :: acc.drop (k - 1) := by
  have hl : (acc.take k).length = k := by rw [List.length_take]; omega
  rw [List.set_append_right _ _ (by omega), hl, Nat.sub_self, List.set_cons_zero]
  obtain ⟨j, rfl⟩ : ∃ j, k = j + 1 := ⟨k - 1, by omega⟩
  simp only [Nat.add_sub_cancel]
  rw [List.take_succ_eq_append_getElem (by omega), List.append_assoc, List.drop_eq_getElem_cons (show j < acc.length by omega)]
  rfl
theorem shift_last (acc : List α) (k : Nat) (hkl : k ≤ acc.length) (z x : α) : (acc.take k ++ z :: acc.drop k).set k x = acc.take k ++ x :: acc.drop k := by
  have hl : (acc.take k).length = k := by rw [List.length_take]; omega
  rw [List.set_append_right _ _ (by omega), hl, Nat.sub_self, List.set_cons_zero]
end

theorem insB_at (x : List UInt8) : ∀ (acc : Texts) (p : Nat), p ≤ acc.length → (∀ j (hj : j < acc.length), j < p → acc[j] < x) → (∀ hp : p < acc.length, ¬ acc[p] < x) →
    insB x acc = if acc[p]? = some x then acc else acc.take p ++ x :: acc.drop p
  | [], p, h, _, _ => by
    have : p = 0 := by simpa using h
    subst this
    simp [insB]
  | y :: r, 0, _, _, h => by
    have h0 := h (by simp)
    simp only [List.getElem_cons_zero] at h0
    rw [insB, if_neg h0]
    by_cases he : y = x
    · rw [if_pos he]
      simp [he]
    · rw [if_neg he]
      simp [he]
  | y :: r, p + 1, hp, hlt, h => by
    have hy := hlt 0 (by simp) (by omega)
    simp only [List.getElem_cons_zero] at hy
    rw [insB, if_pos hy, insB_at x r p (by simpa using hp) (fun j hj hjp => by have := hlt (j + 1) (by simp; omega) (by omega); simpa using this) (fun hpl => by have := h (by simp; omega); simpa using this)]
    simp only [List.getElem?_cons_succ]
    split
    · rfl
    · simp

/-- What the walk keeps: the list so far, in memory of the call's own. -/
structure KeysAt (w wr : World) (v : Value) (h : Option Nat) (acc : Texts) : Prop where
  sl : Sl wr 9 1 v h acc.length (acc.map encStr)
  own : ∀ b, h = some b → w.heap.size ≤ b
  below : Below w.heap.size w wr
theorem KeysAt.later {w wr w' : World} {v : Value} {h : Option Nat} {acc : Texts} (q : KeysAt w wr v h acc) (hb : Below wr.heap.size wr w') : KeysAt w w' v h acc :=
  ⟨q.sl.chg (Chg.of_below hb []) (by simp), q.own, bthen q.below hb⟩

theorem insAll_snoc (l : Texts) (k : Nat) (hk : k < l.length) : insAll (l.take (k + 1)) = insB l[k] (insAll (l.take k)) := by
  unfold insAll
  rw [List.take_succ_eq_append_getElem hk, List.foldl_append]
  rfl

set_option maxRecDepth 100000 in
set_option maxHeartbeats 4000000 in
theorem refKeys_any (w : World) (v : Value) (n : Nat) (l : Texts) (hn : l.length = n) (hnb : n ≤ 100) (hr : RdS w [] 1 v n (l.map encStr)) (hs : Short l) :
    Calls Try.prog 37 #[v] w fun e w' => ∃ A cap hh, e = .returned (.tuple #[.slice A (keysF l).1.length cap, .int .i64 (keysF l).2]) ∧ Sl w' 9 1 (.slice A (keysF l).1.length cap) hh (keysF l).1.length ((keysF l).1.map encStr) ∧ Below w.heap.size w w' := by
  obtain ⟨i0, hi, hz0, hz1, hz2⟩ := info_parts Try.infoString
  obtain ⟨A, cap, rfl, _, _⟩ := hr.form
  obtain ⟨ks, er, hq⟩ : ∃ ks er, keysF l = (ks, er) := ⟨_, _, rfl⟩
  rw [hq]
  have HQ := Lib.hid hq
  have HR := Lib.hid hr
  have HN := Lib.hid hn
  have HS := Lib.hid hs
  clear hq hr hn hs
  go_enter Try.func37, Try.ntmps37
  go_upto_block 0 with (fail)
  go_cut [4] (fun o wx => ∃ h, Hid (l.all (fun s => rightL s) = true ∧ KeysAt w wx o h (insAll l)))
  case first =>
    go_wp2_with fail
    go_loopw [4, 5] (fun o i wr => ∃ (k : Nat) (h : Option Nat), k ≤ n ∧ i = .int .i64 k ∧ Hid ((l.take k).all (fun s => rightL s) = true ∧ KeysAt w wr o h (insAll (l.take k)))) (fun _ i _ => n - (intOf i).toNat)
    case atStart => exact ⟨0, none, Nat.zero_le _, rfl, Lib.hid ⟨by simp, Sl.nil _ _ _, (fun b hb => by cases hb), Below.refl _ _⟩⟩
    case round =>
      obtain ⟨k, h, hk, rfl, HU⟩ := hrel
      by_cases hlt : k < n
      · have hke : k < l.length := by rw [HN.out]; exact hlt
        have hall := HU.out.1
        have hins := insAll_snoc l k hke
        have hacc : (insAll (l.take k)).length ≤ 100 := by
          rw [← keysL_ins]
          have := Lib.compact_length_le (sortB (l.take k))
          rw [sortB_length, List.length_take] at this
          omega
        have hbad : rightL l[k] = false → ([], 1) = (ks, er) := fun h => by
          rw [← HQ.out]
          unfold keysF
          rw [if_pos (List.any_eq_true.2 ⟨l[k], List.getElem_mem hke, by simp [h]⟩)]
        have hgood : rightL l[k] = true → (l.take (k + 1)).all (fun s => rightL s) = true := fun h => by
          rw [List.take_succ_eq_append_getElem hke, List.all_append, hall]
          simp [h]
        obtain ⟨b, off, cap2, hva, hbl, _, hat⟩ := HR.out.str k hke
        injection hva with hva1 _ hva3
        subst hva1
        subst hva3
        have hsz := HS.out l[k] (List.getElem_mem hke)
        have HK := Lib.hid HU.out.2
        have d0 : wr.cell? ⟨b, off + k, none⟩ = some (encStr l[k]) := (HK.out.below.cell (p := ⟨b, off + k, none⟩) hbl).trans hat
        have HAT := Lib.hid hat
        have HINS := Lib.hid hins
        have HBAD := Lib.hid hbad
        have HGOOD := Lib.hid hgood
        clear hall hins hbad hgood hat HU
        generalize l[k] = x at d0 HAT HINS HBAD HGOOD hsz
        generalize insAll (l.take k) = acc at HK HINS hacc
        have hR := rightKey_any ⟨x.toArray⟩ wr (by show x.toArray.size ≤ _; simpa using hsz)
        simp only at hR
        obtain ⟨m, hm⟩ : ∃ m, acc.length = m := ⟨_, rfl⟩
        have HM := Lib.hid hm
        rw [hm] at hacc
        obtain ⟨A1, cap1, rfl, _, _⟩ := HK.out.sl.form
        rw [hm]
        clear hm hsz
        cases hrt : rightL x
        · rw [hrt] at hR
          have hpq := HBAD.out hrt
          injection hpq with hp1 hp2
          subst hp1
          subst hp2
          clear hrt HBAD HGOOD HQ
          have HB0 := Lib.hid HK.out.below
          go_wp2_with (first
            | (go_at_call 38; refine hR.mono ?_; rintro e w2 ⟨rfl, hb2⟩; have HB2 := Lib.hid (bthen HB0.out hb2); clear hb2 hR)
            | fail)
          go_ret2
          exact ⟨none, 0, none, rfl, Sl.nil _ _ _, HB2.out⟩
        · rw [hrt] at hR
          have HG := Lib.hid (HGOOD.out hrt)
          clear hrt HBAD HGOOD
          go_upto_block 2 with (first
            | (go_at_call 38; refine hR.mono ?_; rintro e w2 ⟨rfl, hb2⟩; have HK2 := Lib.hid (HK.out.later hb2); clear hb2 hR HK)
            | fail)
          have d2 : w2.cell? ⟨b, off + k, none⟩ = some (encStr x) := (HK2.out.below.cell (p := ⟨b, off + k, none⟩) hbl).trans HAT.out
          clear d0
          go_cut [6] (fun a wx => ∃ p q : Nat, p ≤ m ∧ a = .int .i64 p ∧ Hid (∀ j (hj : j < acc.length), j < p → acc[j] < x) ∧ Hid (∀ hp : p < acc.length, ¬ acc[p] < x) ∧ Hid (wx = w2.drewN q))
          case first =>
            go_wp2_with fail
            go_loopw [6] (fun a wr => ∃ p q : Nat, p ≤ m ∧ a = .int .i64 p ∧ Hid (∀ j (hj : j < acc.length), j < p → acc[j] < x) ∧ Hid (wr = w2.drewN q)) (fun a _ => m - (intOf a).toNat)
            case atStart => exact ⟨0, 0, Nat.zero_le _, rfl, Lib.hid (fun j hj h => by omega), Lib.hid rfl⟩
            case round =>
              obtain ⟨p, q, hp, rfl, HP, HW⟩ := hrel
              have dx : wr.cell? ⟨b, off + k, none⟩ = some (encStr x) := by rw [HW.out]; exact d2
              by_cases hlt2 : p < m
              · have hpa : p < acc.length := by rw [HM.out]; exact hlt2
                obtain ⟨b1, off1, cap3, hva, hbl1, _, hat1⟩ := (HK2.out.sl.reads [] (by simp)).str p hpa
                injection hva with hva1 hvx hvy
                subst hva1
                clear hvx hvy
                have e1 : wr.cell? ⟨b1, off1 + p, none⟩ = some (encStr acc[p]) := by rw [HW.out]; exact hat1
                have g1 : decide (p < m) = true := decide_eq_true hlt2
                clear hat1
                by_cases hc : acc[p] < x
                · have f1 : Op.bytesLess acc[p] x = true := by rw [bytesLess_eq]; exact decide_eq_true hc
                  have HP2 : Hid (∀ j (hj : j < acc.length), j < p + 1 → acc[j] < x) := Lib.hid fun j hj hj2 => by
                    by_cases hjp : j = p
                    · subst hjp
                      exact hc
                    · exact HP.out j hj (by omega)
                  generalize acc[p] = y at e1 f1
                  clear hc
                  go_wp2_with fail
                  go_quiet (fail)
                  go_wp2_with fail
                  have HW2 : Hid (wr.drewN nq = w2.drewN (q + nq)) := Lib.hid (by rw [HW.out, World.drewN_drewN])
                  refine ⟨?_, by simp [intOf]; omega⟩
                  first | exact ⟨p + 1, _, by omega, by go_num, HP2, HW2⟩ | ((repeat apply Exists.intro); exact ⟨⟨p + 1, _, by omega, by go_num, HP2, HW2⟩, rfl⟩)
                · have f1 : Op.bytesLess acc[p] x = false := by rw [bytesLess_eq]; exact decide_eq_false hc
                  have HNP : Hid (∀ hp : p < acc.length, ¬ acc[p] < x) := Lib.hid fun _ => hc
                  generalize acc[p] = y at e1 f1
                  clear hc
                  go_wp2_with fail
                  go_quiet (fail)
                  go_wp2_with fail
                  have HW2 : Hid (wr.drewN nq = w2.drewN (q + nq)) := Lib.hid (by rw [HW.out, World.drewN_drewN])
                  go_meet
                  exact ⟨p, _, hp, rfl, HP, HNP, HW2⟩
              · have g1 : decide (p < m) = false := decide_eq_false hlt2
                have HNP : Hid (∀ hp : p < acc.length, ¬ acc[p] < x) := Lib.hid fun hpa => absurd hpa (by rw [HM.out]; exact hlt2)
                go_wp2_with fail
                go_quiet (fail)
                go_wp2_with fail
                have HW2 : Hid (wr.drewN nq = w2.drewN (q + nq)) := Lib.hid (by rw [HW.out, World.drewN_drewN])
                go_meet
                exact ⟨p, _, hp, rfl, HP, HNP, HW2⟩
          case rest =>
            obtain ⟨p, q, hp, rfl, HP, HNP, HW⟩ := hcut
            obtain ⟨wd, rfl⟩ : ∃ wd : World, wd = wc := ⟨_, rfl⟩
            have HK3 : Hid (KeysAt w wd (.slice A1 acc.length cap1) h acc) := Lib.hid (by rw [HW.out]; exact HK2.out.later (below_drewN' (Below.refl _ _) q))
            have hib := insB_at x acc p (by rw [HM.out]; exact hp) HP.out HNP.out
            rw [hib] at HINS
            clear hib HP HNP HK2 d2 HW
            have dx : wd.cell? ⟨b, off + k, none⟩ = some (encStr x) := (HK3.out.below.cell (p := ⟨b, off + k, none⟩) hbl).trans HAT.out
            go_upto_region 10 with (fail)
            go_cut [51] (fun t wx => ∃ q : Nat, t = .bool (decide (acc[p]? = some x)) ∧ Hid (wx = wd.drewN q))
            case first =>
              by_cases hlt2 : p < m
              · have hpa : p < acc.length := by rw [HM.out]; exact hlt2
                obtain ⟨b1, off1, cap3, hva, hbl1, _, hat1⟩ := (HK3.out.sl.reads [] (by simp)).str p hpa
                injection hva with hva1 hvx hvy
                subst hva1
                clear hvx hvy
                have g1 : decide (p < m) = true := decide_eq_true hlt2
                have hd : decide (acc[p]? = some x) = (acc[p] == x) := by
                  rw [List.getElem?_eq_getElem hpa]
                  by_cases he : acc[p] = x
                  · simp [he]
                  · simp [he]
                have HD := Lib.hid hd
                clear hd
                generalize acc[p] = y at hat1 HD
                go_quiet (fail)
                go_wp2_with fail
                go_meet
                exact ⟨_, by rw [HD.out], Lib.hid rfl⟩
              · have g1 : decide (p < m) = false := decide_eq_false hlt2
                have hd : decide (acc[p]? = some x) = false := by
                  rw [List.getElem?_eq_none (by rw [HM.out]; omega)]
                  rfl
                have HD := Lib.hid hd
                clear hd
                go_quiet (fail)
                go_wp2_with fail
                go_meet
                exact ⟨_, by rw [HD.out], Lib.hid rfl⟩
            case rest =>
              obtain ⟨q2, rfl, HW⟩ := hcut
              obtain ⟨we, rfl⟩ : ∃ we : World, we = wc := ⟨_, rfl⟩
              have HK4 : Hid (KeysAt w we (.slice A1 acc.length cap1) h acc) := Lib.hid (by rw [HW.out]; exact HK3.out.later (below_drewN' (Below.refl _ _) q2))
              clear HK3 dx HW
              by_cases he : acc[p]? = some x
              · rw [decide_eq_true he]
                rw [if_pos he] at HINS
                have HZ : Hid ((l.take (k + 1)).all (fun s => rightL s) = true ∧ KeysAt w we (.slice A1 m cap1) h (insAll (l.take (k + 1)))) := Lib.hid ⟨HG.out, by rw [HINS.out, ← HM.out]; exact HK4.out⟩
                clear he
                go_wp2_with fail
                refine ⟨?_, by simp [intOf]; omega⟩
                first | exact ⟨k + 1, _, by omega, by go_num, HZ⟩ | ((repeat apply Exists.intro); exact ⟨⟨k + 1, _, by omega, by go_num, HZ⟩, rfl⟩)
              · rw [decide_eq_false he]
                rw [if_neg he] at HINS
                clear he
                have hsl := HK4.out.sl
                rw [HM.out] at hsl
                have HSL := Lib.hid hsl
                clear hsl
                go_wp2_with (at_builtin; refine wpList_append_sl rfl _ _ 71 rfl Try.underlying71 hi hz0 hz1 hz2 rfl (by decide) HSL.out rfl 1 1 rfl rfl ?_ ?_ ?_ ?_)
                · rfl
                · unfold maxLen
                  omega
                · omega
                · intro v2 h2 w3 hs3 hc3 ho3
                  obtain ⟨b2, off2, cap5, hh2, rfl, _, _, hbl2, _⟩ := hs3.at_ (by omega)
                  subst hh2
                  have hsz := HK4.out.below.size
                  have hb2 : w.heap.size ≤ b2 := by
                    rcases ho3 with h3 | ⟨g, h3, h4⟩
                    · exact HK4.out.own b2 h3.symm
                    · injection h3 with h3
                      omega
                  have HB3 : Hid (Below w.heap.size w w3) := Lib.hid (HK4.out.below.trans (hc3.below hsz fun k hk => HK4.out.own k (by simpa using hk)))
                  have HS3 : Hid (∃ z, Sl w3 9 1 (.slice (some ⟨b2, off2, none⟩) (m + 1) cap5) (some b2) (m + 1) ((acc.take m ++ z :: acc.drop m).map encStr) ∧ Chg [b2] w3 w3) := Lib.hid ⟨[], by
                    rw [List.take_of_length_le (by rw [HM.out]; exact Nat.le_refl _), List.drop_of_length_le (by rw [HM.out]; exact Nat.le_refl _), List.map_append]
                    exact hs3, Chg.refl _ _⟩
                  have hbne : b ≠ b2 := by omega
                  clear hs3 hc3 ho3 HSL
                  go_wp2_with fail
                  go_loopw [7] (fun a wr => ∃ r : Nat, p ≤ r ∧ r ≤ m ∧ a = .int .i64 r ∧ Hid (∃ z, Sl wr 9 1 (.slice (some ⟨b2, off2, none⟩) (m + 1) cap5) (some b2) (m + 1) ((acc.take r ++ z :: acc.drop r).map encStr) ∧ Chg [b2] w3 wr)) (fun a _ => (intOf a).toNat)
                  case atStart => exact ⟨m, hp, Nat.le_refl _, by go_num, HS3⟩
                  case round =>
                    obtain ⟨r, hpr, hrm, rfl, HT⟩ := hrel
                    obtain ⟨z, hst, hct⟩ := HT.out
                    have hra : r ≤ acc.length := by rw [HM.out]; exact hrm
                    obtain ⟨b3, off3, cap6, _, hva, _, _, hbl3, hcell⟩ := hst.at_ (by omega)
                    injection hva with hva1 hvx hvy
                    injection hva1 with hva1
                    injection hva1 with hv1 hv2 _
                    subst hv1
                    subst hv2
                    clear hvx hvy
                    have HST := Lib.hid hst
                    have HCT := Lib.hid hct
                    clear hst hct
                    by_cases hlt3 : p < r
                    · have hr0 : 0 < r := by omega
                      have q1 := hcell (r - 1) (by omega)
                      have q2 := hcell r (by omega)
                      have e1 : wr.cell? ⟨b2, off2 + (r - 1), none⟩ = some (encStr (acc[r - 1]'(by omega))) := by
                        rw [q1.1, List.getElem?_map, shift_get acc r hr0 hra z]
                        rfl
                      have e2 : wr.cell? ⟨b2, off2 + r, none⟩ = some (encStr z) := by
                        rw [q2.1, List.getElem?_map, List.getElem?_append_right (by rw [List.length_take]; omega), List.length_take, Nat.min_eq_left hra, Nat.sub_self]
                        rfl
                      have e3 := q2.2
                      have hstep := shift_step acc r hr0 hra z
                      have HZ : Hid (∃ z', Sl (wr.setCell ⟨b2, off2 + r, none⟩ (encStr (acc[r - 1]'(by omega)))) 9 1 (.slice (some ⟨b2, off2, none⟩) (m + 1) cap5) (some b2) (m + 1) ((acc.take (r - 1) ++ z' :: acc.drop (r - 1)).map encStr) ∧ Chg [b2] w3 (wr.setCell ⟨b2, off2 + r, none⟩ (encStr (acc[r - 1]'(by omega))))) := Lib.hid ⟨acc[r - 1]'(by omega), by
                        have h9 := HST.out.store r (encStr (acc[r - 1]'(by omega)))
                        rw [← List.map_set, hstep] at h9
                        exact h9, HCT.out.set (.inl (by simp)) _⟩
                      have i2 : 0 ≤ (r : Int) - 1 := by omega
                      have i3 : ((r : Int) - 1).toNat = r - 1 := by omega
                      have i4 : ((r - 1 : Nat) : Int) = (r : Int) - 1 := by omega
                      have HI4 := Lib.hid i4
                      clear hcell q1 q2 hstep i4
                      generalize (acc[r - 1]'(by omega)) = y at e1 HZ
                      go_wp2_with fail
                      refine ⟨?_, by simp [intOf]; omega⟩
                      first | exact ⟨r - 1, by omega, by omega, by rw [HI4.out], HZ⟩ | ((repeat apply Exists.intro); exact ⟨⟨r - 1, by omega, by omega, by rw [HI4.out], HZ⟩, rfl⟩)
                    · obtain rfl : p = r := by omega
                      have q2 := hcell p (by omega)
                      have e2 : wr.cell? ⟨b2, off2 + p, none⟩ = some (encStr z) := by
                        rw [q2.1, List.getElem?_map, List.getElem?_append_right (by rw [List.length_take]; omega), List.length_take, Nat.min_eq_left hra, Nat.sub_self]
                        rfl
                      have e3 := q2.2
                      have dx : wr.cell? ⟨b, off + k, none⟩ = some (encStr x) := (HCT.out.cell (p := ⟨b, off + k, none⟩) (Nat.lt_of_lt_of_le hbl HB3.out.size) (by simpa using hbne)).trans ((HB3.out.cell (p := ⟨b, off + k, none⟩) hbl).trans HAT.out)
                      have HZ : Hid ((l.take (k + 1)).all (fun s => rightL s) = true ∧ KeysAt w (wr.setCell ⟨b2, off2 + p, none⟩ (encStr x)) (.slice (some ⟨b2, off2, none⟩) (m + 1) cap5) (some b2) (insAll (l.take (k + 1)))) := Lib.hid ⟨HG.out, by
                        rw [HINS.out]
                        have h9 := HST.out.store p (encStr x)
                        rw [← List.map_set, shift_last acc p hra z x] at h9
                        have hlen : (acc.take p ++ x :: acc.drop p).length = m + 1 := by
                          have := h9.1
                          simpa using this
                        refine ⟨by rw [hlen]; exact h9, fun b hb => ?_, (HB3.out.trans (HCT.out.below HB3.out.size (by simpa using hb2))).setCell hb2 _⟩
                        injection hb with hb
                        omega⟩
                      clear hcell q2
                      go_wp2_with fail
                      refine ⟨?_, by simp [intOf]; omega⟩
                      first | exact ⟨k + 1, _, by omega, by go_num, HZ⟩ | ((repeat apply Exists.intro); exact ⟨⟨k + 1, _, by omega, by go_num, HZ⟩, rfl⟩)
      · have hkn : k = n := by omega
        subst hkn
        have HU2 := HU.out
        rw [List.take_of_length_le (by rw [HN.out]; exact Nat.le_refl _)] at HU2
        have HU3 := Lib.hid HU2
        clear HU2
        go_wp2_with fail
        go_meet
        exact ⟨_, HU3⟩
  case rest =>
    obtain ⟨h, HU⟩ := hcut
    obtain ⟨A1, cap1, rfl, _, _⟩ := HU.out.2.sl.form
    have hq := HQ.out
    rw [keysF_ins, if_neg (by
      intro hany
      obtain ⟨s, hs, hs2⟩ := List.any_eq_true.1 hany
      have := List.all_eq_true.1 HU.out.1 s hs
      simp [this] at hs2)] at hq
    have HK := Lib.hid HU.out.2
    clear HU HQ
    generalize insAll l = acc at HK hq
    obtain ⟨m, hm⟩ : ∃ m, acc.length = m := ⟨_, rfl⟩
    rw [hm] at hq
    have HM := Lib.hid hm
    by_cases h16 : 16 < m
    · rw [if_pos h16] at hq
      injection hq with hq1 hq2
      subst hq1
      subst hq2
      rw [hm]
      clear hm
      go_wp2_with fail
      go_ret2
      exact ⟨none, 0, none, rfl, Sl.nil _ _ _, HK.out.below⟩
    · rw [if_neg h16] at hq
      injection hq with hq1 hq2
      subst hq1
      subst hq2
      rw [hm]
      clear hm
      go_wp2_with fail
      go_ret2
      have hm := HM.out
      simp only [hm]
      have hsl := HK.out.sl
      rw [hm] at hsl
      exact ⟨_, _, _, rfl, hsl, HK.out.below⟩

end Go.Proofs.Ytkgpflobbmagaaa
