/-
  The walk of field.First: the value of the first field of a name.
-/
import Derived.Test.YtmbibhphpjmboaaGreatDoorOne
import Derived.Test.YtmbibhphpjmboaaGreatDoorFold
namespace Go.Proofs.YtmbibhphpjmboaaGreatDoor
open Go.Shelf Go.RowKit
attribute [local go_sem ↓] Go.wp_at_zero Go.wp_at_succ

def encF (f : List UInt8 × List UInt8) : List Value := [.string ⟨f.1.toArray⟩, .string ⟨f.2.toArray⟩]
theorem encF_length (f : List UInt8 × List UInt8) : (encF f).length = 2 := rfl

theorem firstF_hit (name : List UInt8) : ∀ (l : List (List UInt8 × List UInt8)) (k : Nat) (hk : k < l.length), lowL l[k].1 = lowL name → (∀ j (hj : j < l.length), j < k → lowL l[j].1 ≠ lowL name) → firstF l name = (l[k].2, true)
  | x :: r, 0, _, h, _ => by
    have h : lowL x.1 = lowL name := h
    simp [firstF, h]
  | x :: r, k + 1, hk, h, hj => by
    have h0 : ¬ lowL x.1 = lowL name := hj 0 (by simp) (by omega)
    have ih := firstF_hit name r k (by simpa using hk) (by simpa using h) (fun j hj1 hj2 => hj (j + 1) (by simpa using hj1) (by omega))
    simp only [firstF] at ih ⊢
    rw [List.find?_cons_of_neg (by simpa using h0)]
    exact ih
theorem firstF_miss (name : List UInt8) (l : List (List UInt8 × List UInt8)) (h : ∀ j (hj : j < l.length), lowL l[j].1 ≠ lowL name) : firstF l name = ([], false) := by
  have : l.find? (fun f => decide (lowL f.1 = lowL name)) = none := by
    rw [List.find?_eq_none]
    intro x hx
    obtain ⟨j, hj, rfl⟩ := List.getElem_of_mem hx
    simpa using h j hj
  simp [firstF, this]

set_option maxRecDepth 100000 in
set_option maxHeartbeats 1000000 in
theorem first_any (w : World) (v : Value) (S : List Nat) (l : List (List UInt8 × List UInt8)) (hr : RdS w S 2 v l.length (flatG encF l)) (name : List UInt8) (hn : name.length ≤ 4294967296) (hl : ∀ f ∈ l, f.1.length ≤ 4294967296) :
    Calls Tryz.prog 121 #[v, .string ⟨name.toArray⟩] w fun e w' => e = .returned (.tuple #[.string ⟨(firstF l name).1.toArray⟩, .bool (firstF l name).2]) ∧ Below w.heap.size w w' := by
  have hfo := fun (s : List UInt8) (hs : s.length ≤ 4294967296) W => fold_any ⟨s.toArray⟩ W (by show s.toArray.size ≤ _; simp; omega)
  obtain ⟨A, cap, rfl, hnc, hcm⟩ := hr.form
  unfold maxLen at hcm
  obtain ⟨n, hnn⟩ : ∃ n, l.length = n := ⟨_, rfl⟩
  obtain ⟨ans, hans⟩ : ∃ ans, firstF l name = ans := ⟨_, rfl⟩
  rw [hans]
  obtain ⟨a1, a2⟩ := ans
  have HANS := Lib.hid hans
  have HR := Lib.hid hr
  have HL := Lib.hid hl
  rw [hnn] at hr hnc ⊢
  have hn63 : n ≤ 9223372036854775807 := by omega
  clear hnc hcm
  clear hr hl hans
  go_enter Tryz.func121, Tryz.ntmps121
  go_wp2_with fail
  go_loopw [10] (fun i wr => ∃ k : Nat, k ≤ n ∧ i = .int .i64 k ∧ Hid (Below w.heap.size w wr) ∧ Hid (∀ j (hj : j < l.length), j < k → lowL l[j].1 ≠ lowL name)) (fun i _ => n - (intOf i).toNat)
  case atStart => exact ⟨0, Nat.zero_le _, rfl, Lib.hid (Below.refl _ _), Lib.hid (fun j hj h => by omega)⟩
  case round =>
    obtain ⟨k, hk, rfl, HB, HM⟩ := hrel
    by_cases hlt : k < n
    · have hkl : k < l.length := by omega
      obtain ⟨b, off, cap2, hva, _, _, hbl, _, hat⟩ := HR.out.at_ (by omega)
      injection hva with hva1 hvx hva3
      subst hva1 hva3
      clear hvx
      have e0 := (HB.out.cell (p := ⟨b, off + k * 2, none⟩) hbl).trans ((hat (k * 2) (by omega)).trans ((flatG_get encF_length l k 0 hkl (by omega)).trans rfl))
      have e1 := (HB.out.cell (p := ⟨b, off + k * 2 + 1, none⟩) hbl).trans ((congrArg w.cell? (by rw [Nat.add_assoc])).trans ((hat (k * 2 + 1) (by omega)).trans ((flatG_get encF_length l k 1 hkl (by omega)).trans rfl)))
      have d0 : wr.cell? ⟨b, off + k * 2, none⟩ = some (.string ⟨l[k].1.toArray⟩) := e0
      have d1 : wr.cell? ⟨b, off + k * 2 + 1, none⟩ = some (.string ⟨l[k].2.toArray⟩) := e1
      have f1 := fun W => hfo l[k].1 (HL.out _ (List.getElem_mem hkl)) W
      have f2 := fun W => hfo name hn W
      have hit : lowL l[k].1 = lowL name → (a1, a2) = (l[k].2, true) := fun h => HANS.out.symm.trans (firstF_hit name l k hkl h HM.out)
      obtain ⟨x, hx⟩ : ∃ x, x = l[k] := ⟨_, rfl⟩
      have HX := Lib.hid hx
      rw [← hx] at d0 d1 f1 hit
      obtain ⟨x1, x2⟩ := x
      simp only at d0 d1 f1 hit
      have HIT := Lib.hid hit
      clear hat e0 e1 hx hit
      have t1 : (lowS ⟨x1.toArray⟩).toList = lowL x1 := by rw [ByteArray.toList_eq]; rfl
      have t2 : (lowS ⟨name.toArray⟩).toList = lowL name := by rw [ByteArray.toList_eq]; rfl
      by_cases he : lowL x1 = lowL name
      · have hc : ((lowS ⟨x1.toArray⟩).toList == (lowS ⟨name.toArray⟩).toList) = true := by rw [t1, t2, he]; simp
        have hi := HIT.out he
        injection hi with hi1 hi2
        have hi3 := hi1.symm
        have hi4 := hi2.symm
        subst hi3 hi4
        clear t1 t2 he
        go_wp2_with (first
          | (go_at_call 127; (with_reducible refine (f1 _).mono ?_); rintro e w2 ⟨rfl, hb2⟩; have k2 := (Blk.new wr 213 #[.string ⟨x1.toArray⟩, .string ⟨x2.toArray⟩]).below hb2 (by simp); have hq2 := below_then (below_alloc1 wr _) hb2; have K2 := Lib.hid k2; have HQ2 := Lib.hid hq2; clear f1 hb2 k2 hq2)
          | (go_at_call 127; (with_reducible refine (f2 _).mono ?_); rintro e w3 ⟨rfl, hb3⟩; have z1 : w3.cell? ⟨wr.heap.size, 1, none⟩ = some (.string ⟨x2.toArray⟩) := (K2.out.below hb3 K2.out.lt).cell 1; have HB3 := Lib.hid (below_then HB.out (below_then HQ2.out hb3)); clear f2 hb3)
          | fail)
        go_ret2
        exact ⟨rfl, HB3.out⟩
      · have hc : ((lowS ⟨x1.toArray⟩).toList == (lowS ⟨name.toArray⟩).toList) = false := by rw [t1, t2]; simpa using he
        have HM2 : Hid (∀ j (hj : j < l.length), j < k + 1 → lowL l[j].1 ≠ lowL name) := Lib.hid (by
          intro j hj hjk
          by_cases hjk2 : j = k
          · subst hjk2
            rw [← HX.out]
            exact he
          · exact HM.out j hj (by omega))
        clear t1 t2 he
        go_wp2_with (first
          | (go_at_call 127; (with_reducible refine (f1 _).mono ?_); rintro e w2 ⟨rfl, hb2⟩; have k2 := (Blk.new wr 213 #[.string ⟨x1.toArray⟩, .string ⟨x2.toArray⟩]).below hb2 (by simp); have hq2 := below_then (below_alloc1 wr _) hb2; have K2 := Lib.hid k2; have HQ2 := Lib.hid hq2; clear f1 hb2 k2 hq2)
          | (go_at_call 127; (with_reducible refine (f2 _).mono ?_); rintro e w3 ⟨rfl, hb3⟩; have z1 : w3.cell? ⟨wr.heap.size, 1, none⟩ = some (.string ⟨x2.toArray⟩) := (K2.out.below hb3 K2.out.lt).cell 1; have HB3 := Lib.hid (below_then HB.out (below_then HQ2.out hb3)); clear f2 hb3)
          | fail)
        refine ⟨?_, by simp [intOf]; omega⟩
        first | exact ⟨k + 1, by omega, by go_num, HB3, HM2⟩ | ((repeat apply Exists.intro); exact ⟨⟨k + 1, by omega, by go_num, HB3, HM2⟩, rfl⟩)
    · have hkn : k = n := by omega
      subst hkn
      have hm := firstF_miss name l (fun j hj => HM.out j hj (by omega))
      rw [HANS.out] at hm
      injection hm with hm1 hm2
      subst hm1 hm2
      go_wp2_with fail
      go_ret2
      exact ⟨rfl, HB.out⟩

end Go.Proofs.YtmbibhphpjmboaaGreatDoor
