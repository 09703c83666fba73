/-
  The walk of field.one: the field that a text is.
  The walk of field.First: the value of the first field of a name.
  The walk of field.lines and of the iterator that it hands back.
  Words for field.Split: what the loop over the lines keeps, and what the loop over the gathered ones does.
  The walk of field.Split: the fields of a text, and the place behind them.
  The walks of the store's thread and of its reading of a head.
  Words for the store's Append: a call inside a region that draws its order; the loop that numbers the members; what each step leaves as it was.
-/
import Derived.Test.YtgkfknbhkonfdaaGreatDoorGB
import Derived.Test.YtgkfknbhkonfdaaGreatDoorGD
import Derived.Test.YtgkfknbhkonfdaaGreatDoorGA
import Derived.RangeFuncNested
import Derived.RangeFuncBound
import Derived.RangeFuncCalls
import Derived.RangeFuncLeaves
import Derived.Shelf.Abstract
import Derived.Shelf.RegionOpen
import Derived.OwnWalkIn
import Derived.TacticsInMore
import Derived.LoopNIn
import Derived.LoopIn
import Derived.Deep.QuietTactic
import Derived.BigQuiet
import Derived.Deep.RegionLaw
import Derived.Deep.DrawnRows
import Derived.Deep.DeepCutAuto
import Derived.Deep.CutBlock
import Derived.StillTailTactics
namespace Go.Proofs.YtgkfknbhkonfdaaGreatDoor
open Go.Shelf Go.RowKit
attribute [local go_sem ↓] Go.wp_at_zero Go.wp_at_succ

theorem below_dropN {w w' : World} {n : Nat} (h : Below (w.drewN n).heap.size (w.drewN n) w') : Below w.heap.size w w' := ⟨h.os, h.tape, h.output, h.size, h.block⟩
def headB (b : UInt8) : Bool := decide (33 ≤ b.toNat) && decide (b.toNat ≤ 126)

set_option maxRecDepth 100000 in
set_option maxHeartbeats 1000000 in
theorem one_any (s : List UInt8) (w : World) (hs : s.length < 4294967281) (hcl : (Lib.cut s [58]).1.length ≤ s.length ∧ (Lib.cut s [58]).2.1.length ≤ s.length) :
    Calls Tryz.prog 181 #[.string ⟨s.toArray⟩] w fun e w' => e = .returned (.tuple #[.agg #[.string ⟨(oneF s).1.1.toArray⟩, .string ⟨(oneF s).1.2.toArray⟩], .bool (oneF s).2]) ∧ Below w.heap.size w w' := by
  have hC := fun W => cut_any s W hs
  unfold oneF
  generalize Lib.cut s [58] = c at hC hcl ⊢
  obtain ⟨nm, vl, ok⟩ := c
  simp only at hC hcl ⊢
  have hT := fun W => trim_any vl W (by omega)
  generalize Lib.trimS vl [32, 9] = tr at hT ⊢
  obtain ⟨S, rfl⟩ : ∃ S : ByteArray, nm = S.data.toList := ⟨⟨nm.toArray⟩, rfl⟩
  have hSS : (⟨S.data.toList.toArray⟩ : ByteArray) = S := rfl
  rw [hSS] at hC ⊢
  have hsz : S.size < 4294967281 := by
    have h1 := hcl.1
    have h2 : S.data.toList.length = S.size := by simp
    omega
  obtain ⟨ans, hans⟩ : ∃ ans, (ok && (S.data.toList.all (fun b => decide (33 ≤ b.toNat) && decide (b.toNat ≤ 126)) && !decide (S.data.toList = []))) = ans := ⟨_, rfl⟩
  rw [hans]
  have hans2 : ans = ((ok && S.data.toList.all headB) && !S.data.toList.isEmpty) := by
    rw [← hans, Bool.and_assoc]
    cases S.data.toList <;> rfl
  have HA := Lib.hid hans2
  clear hcl hs hSS hans hans2
  go_enter Tryz.func181, Tryz.ntmps181
  go_wp2_with (first
    | (go_at_call 233; refine (hC _).mono ?_; rintro e w1 ⟨rfl, nq, rfl⟩; clear hC)
    | fail)
  go_loop [6, 16] (fun o i => ∃ k : Nat, k ≤ S.size ∧ i = .int .i64 k ∧ o = .bool (ok && (S.data.toList.take k).all headB)) (fun _ i => S.size - (intOf i).toNat)
  case atStart => exact ⟨0, Nat.zero_le _, rfl, by simp⟩
  case round =>
    obtain ⟨k, hk, rfl, rfl⟩ := hrel
    by_cases hlt : k < S.size
    · have hk1 : (k : Int) < (S.size : Int) := by omega
      have hsn : (ok && (S.data.toList.take (k + 1)).all headB) = ((ok && (S.data.toList.take k).all headB) && headB S[k]) := by
        rw [take_snocB S k hlt]
        simp [Bool.and_assoc]
      have HSN := Lib.hid hsn
      clear hsn
      generalize (ok && (S.data.toList.take k).all headB) = p at HSN ⊢
      cases p with
      | false =>
        go_wp2_with fail
        refine ⟨?_, by simp [intOf]; omega⟩
        first | exact ⟨k + 1, by omega, by go_num, by rw [HSN.out]; rfl⟩ | ((repeat apply Exists.intro); exact ⟨⟨k + 1, by omega, by go_num, by rw [HSN.out]; rfl⟩, rfl⟩)
      | true =>
        by_cases h1 : (33 : Int) ≤ (S[k].toNat : Int)
        · by_cases h2 : (S[k].toNat : Int) ≤ 126
          · have hb : headB S[k] = true := by simp [headB]; omega
            rw [hb] at HSN
            go_wp2_with fail
            refine ⟨?_, by simp [intOf]; omega⟩
            first | exact ⟨k + 1, by omega, by go_num, by rw [HSN.out]; rfl⟩ | ((repeat apply Exists.intro); exact ⟨⟨k + 1, by omega, by go_num, by rw [HSN.out]; rfl⟩, rfl⟩)
          · have hb : headB S[k] = false := by simp [headB]; omega
            rw [hb] at HSN
            go_wp2_with fail
            refine ⟨?_, by simp [intOf]; omega⟩
            first | exact ⟨k + 1, by omega, by go_num, by rw [HSN.out]; rfl⟩ | ((repeat apply Exists.intro); exact ⟨⟨k + 1, by omega, by go_num, by rw [HSN.out]; rfl⟩, rfl⟩)
        · have hb : headB S[k] = false := by simp [headB]; omega
          rw [hb] at HSN
          go_wp2_with fail
          refine ⟨?_, by simp [intOf]; omega⟩
          first | exact ⟨k + 1, by omega, by go_num, by rw [HSN.out]; rfl⟩ | ((repeat apply Exists.intro); exact ⟨⟨k + 1, by omega, by go_num, by rw [HSN.out]; rfl⟩, rfl⟩)
    · have hkk : k = S.size := by omega
      subst hkk
      have htk : S.data.toList.take S.size = S.data.toList := List.take_of_length_le (by simp)
      rw [htk]
      obtain ⟨p, hp⟩ : ∃ p, (ok && S.data.toList.all headB) = p := ⟨_, rfl⟩
      rw [hp] at HA ⊢
      clear hp htk
      cases p with
      | false =>
        go_wp2_with (first
          | (go_at_call 234; refine (hT _).mono ?_; rintro e w2 ⟨rfl, hb2⟩; have hb3 := below_dropN hb2; have hk2 := (Blk.new w 242 #[.string ⟨#[]⟩, .string ⟨#[]⟩]).below hb3 (by simp); have r0 : w2.cell? ⟨w.heap.size, 0, none⟩ = some (.string ⟨#[]⟩) := hk2.cell 0; have r1 : w2.cell? ⟨w.heap.size, 1, none⟩ = some (.string ⟨#[]⟩) := hk2.cell 1; have f0 := hk2.frozen 0; have f1 := hk2.frozen 1; have HK := Lib.hid hk2; have HB2 := Lib.hid (below_then (below_alloc1 w _) hb3); clear hT hk2 hb2 hb3)
          | fail)
        refine bodyPost_ret (v := .tuple #[.agg #[.string S, .string ⟨tr.toArray⟩], .bool ans]) ?_ rfl ⟨rfl, (((Chg.of_below HB2.out []).set (.inr (Nat.le_refl _)) _).set (.inr (Nat.le_refl _)) _).below (Nat.le_refl _) (by simp)⟩
        have hz := (HK.out.set 0 (.string S)).set 1 (.string ⟨tr.toArray⟩)
        have z0 := hz.cell 0
        have z1 := hz.cell 1
        simp at z0 z1
        rw [HA.out]
        simp [results, Tryz.results181, go_sem, z0, z1]
      | true =>
        go_wp2_with (first
          | (go_at_call 234; refine (hT _).mono ?_; rintro e w2 ⟨rfl, hb2⟩; have hb3 := below_dropN hb2; have hk2 := (Blk.new w 242 #[.string ⟨#[]⟩, .string ⟨#[]⟩]).below hb3 (by simp); have r0 : w2.cell? ⟨w.heap.size, 0, none⟩ = some (.string ⟨#[]⟩) := hk2.cell 0; have r1 : w2.cell? ⟨w.heap.size, 1, none⟩ = some (.string ⟨#[]⟩) := hk2.cell 1; have f0 := hk2.frozen 0; have f1 := hk2.frozen 1; have HK := Lib.hid hk2; have HB2 := Lib.hid (below_then (below_alloc1 w _) hb3); clear hT hk2 hb2 hb3)
          | fail)
        refine bodyPost_ret (v := .tuple #[.agg #[.string S, .string ⟨tr.toArray⟩], .bool ans]) ?_ rfl ⟨rfl, (((Chg.of_below HB2.out []).set (.inr (Nat.le_refl _)) _).set (.inr (Nat.le_refl _)) _).below (Nat.le_refl _) (by simp)⟩
        have hz := (HK.out.set 0 (.string S)).set 1 (.string ⟨tr.toArray⟩)
        have z0 := hz.cell 0
        have z1 := hz.cell 1
        simp at z0 z1
        rw [HA.out]
        simp [results, Tryz.results181, go_sem, z0, z1, ByteArray.toList_eq]

end Go.Proofs.YtgkfknbhkonfdaaGreatDoor

namespace Go.Proofs.YtgkfknbhkonfdaaGreatDoor
open Go.Shelf Go.RowKit
attribute [local go_sem ↓] Go.wp_at_zero Go.wp_at_succ

def encF (f : List UInt8 × List UInt8) : List Value := [.string ⟨f.1.toArray⟩, .string ⟨f.2.toArray⟩]
theorem encF_length (f : List UInt8 × List UInt8) : (encF f).length = 2 := rfl

theorem firstF_hit (name : List UInt8) : ∀ (l : List (List UInt8 × List UInt8)) (k : Nat) (hk : k < l.length), lowL l[k].1 = lowL name → (∀ j (hj : j < l.length), j < k → lowL l[j].1 ≠ lowL name) → firstF l name = (l[k].2, true)
  | x :: r, 0, _, h, _ => by
    have h : lowL x.1 = lowL name := h
    simp [firstF, h]
  | x :: r, k + 1, hk, h, hj => by
    have h0 : ¬ lowL x.1 = lowL name := hj 0 (by simp) (by omega)
    have ih := firstF_hit name r k (by simpa using hk) (by simpa using h) (fun j hj1 hj2 => hj (j + 1) (by simpa using hj1) (by omega))
    simp only [firstF] at ih ⊢
    rw [List.find?_cons_of_neg (by simpa using h0)]
    exact ih
theorem firstF_miss (name : List UInt8) (l : List (List UInt8 × List UInt8)) (h : ∀ j (hj : j < l.length), lowL l[j].1 ≠ lowL name) : firstF l name = ([], false) := by
  have : l.find? (fun f => decide (lowL f.1 = lowL name)) = none := by
    rw [List.find?_eq_none]
    intro x hx
    obtain ⟨j, hj, rfl⟩ := List.getElem_of_mem hx
    simpa using h j hj
  simp [firstF, this]

set_option maxRecDepth 100000 in
set_option maxHeartbeats 1000000 in
theorem first_any (w : World) (v : Value) (S : List Nat) (l : List (List UInt8 × List UInt8)) (hr : RdS w S 2 v l.length (flatG encF l)) (name : List UInt8) (hn : name.length ≤ 4294967296) (hl : ∀ f ∈ l, f.1.length ≤ 4294967296) :
    Calls Tryz.prog 133 #[v, .string ⟨name.toArray⟩] w fun e w' => e = .returned (.tuple #[.string ⟨(firstF l name).1.toArray⟩, .bool (firstF l name).2]) ∧ Below w.heap.size w w' := by
  have hfo := fun (s : List UInt8) (hs : s.length ≤ 4294967296) W => fold_any ⟨s.toArray⟩ W (by show s.toArray.size ≤ _; simp; omega)
  obtain ⟨A, cap, rfl, hnc, hcm⟩ := hr.form
  unfold maxLen at hcm
  obtain ⟨n, hnn⟩ : ∃ n, l.length = n := ⟨_, rfl⟩
  obtain ⟨ans, hans⟩ : ∃ ans, firstF l name = ans := ⟨_, rfl⟩
  rw [hans]
  obtain ⟨a1, a2⟩ := ans
  have HANS := Lib.hid hans
  have HR := Lib.hid hr
  have HL := Lib.hid hl
  rw [hnn] at hr hnc ⊢
  have hn63 : n ≤ 9223372036854775807 := by omega
  clear hnc hcm
  clear hr hl hans
  go_enter Tryz.func133, Tryz.ntmps133
  go_wp2_with fail
  go_loopw [10] (fun i wr => ∃ k : Nat, k ≤ n ∧ i = .int .i64 k ∧ Hid (Below w.heap.size w wr) ∧ Hid (∀ j (hj : j < l.length), j < k → lowL l[j].1 ≠ lowL name)) (fun i _ => n - (intOf i).toNat)
  case atStart => exact ⟨0, Nat.zero_le _, rfl, Lib.hid (Below.refl _ _), Lib.hid (fun j hj h => by omega)⟩
  case round =>
    obtain ⟨k, hk, rfl, HB, HM⟩ := hrel
    by_cases hlt : k < n
    · have hkl : k < l.length := by omega
      obtain ⟨b, off, cap2, hva, _, _, hbl, _, hat⟩ := HR.out.at_ (by omega)
      injection hva with hva1 hvx hva3
      subst hva1 hva3
      clear hvx
      have e0 := (HB.out.cell (p := ⟨b, off + k * 2, none⟩) hbl).trans ((hat (k * 2) (by omega)).trans ((flatG_get encF_length l k 0 hkl (by omega)).trans rfl))
      have e1 := (HB.out.cell (p := ⟨b, off + k * 2 + 1, none⟩) hbl).trans ((congrArg w.cell? (by rw [Nat.add_assoc])).trans ((hat (k * 2 + 1) (by omega)).trans ((flatG_get encF_length l k 1 hkl (by omega)).trans rfl)))
      have d0 : wr.cell? ⟨b, off + k * 2, none⟩ = some (.string ⟨l[k].1.toArray⟩) := e0
      have d1 : wr.cell? ⟨b, off + k * 2 + 1, none⟩ = some (.string ⟨l[k].2.toArray⟩) := e1
      have f1 := fun W => hfo l[k].1 (HL.out _ (List.getElem_mem hkl)) W
      have f2 := fun W => hfo name hn W
      have hit : lowL l[k].1 = lowL name → (a1, a2) = (l[k].2, true) := fun h => HANS.out.symm.trans (firstF_hit name l k hkl h HM.out)
      obtain ⟨x, hx⟩ : ∃ x, x = l[k] := ⟨_, rfl⟩
      have HX := Lib.hid hx
      rw [← hx] at d0 d1 f1 hit
      obtain ⟨x1, x2⟩ := x
      simp only at d0 d1 f1 hit
      have HIT := Lib.hid hit
      clear hat e0 e1 hx hit
      have t1 : (lowS ⟨x1.toArray⟩).toList = lowL x1 := by rw [ByteArray.toList_eq]; rfl
      have t2 : (lowS ⟨name.toArray⟩).toList = lowL name := by rw [ByteArray.toList_eq]; rfl
      by_cases he : lowL x1 = lowL name
      · have hc : ((lowS ⟨x1.toArray⟩).toList == (lowS ⟨name.toArray⟩).toList) = true := by rw [t1, t2, he]; simp
        have hi := HIT.out he
        injection hi with hi1 hi2
        have hi3 := hi1.symm
        have hi4 := hi2.symm
        subst hi3 hi4
        clear t1 t2 he
        go_wp2_with (first
          | (go_at_call 171; (with_reducible refine (f1 _).mono ?_); rintro e w2 ⟨rfl, hb2⟩; have k2 := (Blk.new wr 242 #[.string ⟨x1.toArray⟩, .string ⟨x2.toArray⟩]).below hb2 (by simp); have hq2 := below_then (below_alloc1 wr _) hb2; have K2 := Lib.hid k2; have HQ2 := Lib.hid hq2; clear f1 hb2 k2 hq2)
          | (go_at_call 171; (with_reducible refine (f2 _).mono ?_); rintro e w3 ⟨rfl, hb3⟩; have z1 : w3.cell? ⟨wr.heap.size, 1, none⟩ = some (.string ⟨x2.toArray⟩) := (K2.out.below hb3 K2.out.lt).cell 1; have HB3 := Lib.hid (below_then HB.out (below_then HQ2.out hb3)); clear f2 hb3)
          | fail)
        go_ret2
        exact ⟨rfl, HB3.out⟩
      · have hc : ((lowS ⟨x1.toArray⟩).toList == (lowS ⟨name.toArray⟩).toList) = false := by rw [t1, t2]; simpa using he
        have HM2 : Hid (∀ j (hj : j < l.length), j < k + 1 → lowL l[j].1 ≠ lowL name) := Lib.hid (by
          intro j hj hjk
          by_cases hjk2 : j = k
          · subst hjk2
            rw [← HX.out]
            exact he
          · exact HM.out j hj (by omega))
        clear t1 t2 he
        go_wp2_with (first
          | (go_at_call 171; (with_reducible refine (f1 _).mono ?_); rintro e w2 ⟨rfl, hb2⟩; have k2 := (Blk.new wr 242 #[.string ⟨x1.toArray⟩, .string ⟨x2.toArray⟩]).below hb2 (by simp); have hq2 := below_then (below_alloc1 wr _) hb2; have K2 := Lib.hid k2; have HQ2 := Lib.hid hq2; clear f1 hb2 k2 hq2)
          | (go_at_call 171; (with_reducible refine (f2 _).mono ?_); rintro e w3 ⟨rfl, hb3⟩; have z1 : w3.cell? ⟨wr.heap.size, 1, none⟩ = some (.string ⟨x2.toArray⟩) := (K2.out.below hb3 K2.out.lt).cell 1; have HB3 := Lib.hid (below_then HB.out (below_then HQ2.out hb3)); clear f2 hb3)
          | fail)
        refine ⟨?_, by simp [intOf]; omega⟩
        first | exact ⟨k + 1, by omega, by go_num, HB3, HM2⟩ | ((repeat apply Exists.intro); exact ⟨⟨k + 1, by omega, by go_num, HB3, HM2⟩, rfl⟩)
    · have hkn : k = n := by omega
      subst hkn
      have hm := firstF_miss name l (fun j hj => HM.out j hj (by omega))
      rw [HANS.out] at hm
      injection hm with hm1 hm2
      subst hm1 hm2
      go_wp2_with fail
      go_ret2
      exact ⟨rfl, HB.out⟩

end Go.Proofs.YtgkfknbhkonfdaaGreatDoor

namespace Go.Proofs.YtgkfknbhkonfdaaGreatDoor
open Go.Shelf Go.RowKit
attribute [local go_sem ↓] Go.wp_at_zero Go.wp_at_succ
attribute [local go_sem] Oper.semAt_some

theorem lines_any (s : ByteArray) (at_ t_ : Int) (w : World) :
    Calls Tryz.prog 180 #[.string s, .int .i64 at_, .int .i64 t_] w fun e w' => e = .returned (.func (.func 231) #[] #[.pointer (some ⟨w.heap.size + 1, 0, none⟩), .pointer (some ⟨w.heap.size + 1 + 1, 0, none⟩), .pointer (some ⟨w.heap.size, 0, none⟩)]) ∧ w' = ((w.alloc (.cells #[.string s] 9)).alloc (.cells #[.int .i64 at_] 3)).alloc (.cells #[.int .i64 t_] 3) := by
  go_enter Tryz.func180, Tryz.ntmps180
  go_wp2
  go_ret
  exact ⟨rfl, rfl⟩

/-- The line at a place, and the place behind it. -/
def lineAt (s : List UInt8) (p : Nat) : List UInt8 × Nat :=
  if Lib.indexByte (s.drop p) 10 < 0 then (s.drop p, s.length)
  else (Lib.trimSuffix ((s.drop p).take (Lib.indexByte (s.drop p) 10).toNat) [13], p + ((Lib.indexByte (s.drop p) 10).toNat + 1))
theorem indexByte_lt (D : List UInt8) (c : UInt8) (h : ¬ Lib.indexByte D c < 0) : (Lib.indexByte D c).toNat < D.length := by
  obtain ⟨o, ho⟩ : ∃ o : Nat, Lib.indexByte D c = o := ⟨(Lib.indexByte D c).toNat, by omega⟩
  have h1 := (Lib.indexByte_some ho).1
  have h2 := (List.getElem?_eq_some_iff.1 h1).1
  omega
theorem linesF_step (s : List UInt8) (p f : Nat) (hp : p < s.length) : linesF (f + 1) (s.drop p) p = lineAt s p :: linesF f (s.drop (lineAt s p).2) (lineAt s p).2 := by
  have hne : s.drop p ≠ [] := by
    intro h
    have := congrArg List.length h
    simp at this
    omega
  rw [linesF, if_neg hne]
  unfold lineAt
  by_cases h : Lib.indexByte (s.drop p) 10 < 0
  · rw [if_pos h, if_pos h]
    have h1 : p + (s.drop p).length = s.length := by simp; omega
    rw [h1]
    have h2 : linesF f (s.drop s.length) s.length = [] := by
      cases f <;> simp [linesF]
    simp only [h2]
  · rw [if_neg h, if_neg h]
    simp only [List.drop_drop]
theorem trimSuffix_le (l p : List UInt8) : (Lib.trimSuffix l p).length ≤ l.length := by
  unfold Lib.trimSuffix
  split
  · rw [List.length_take]
    omega
  · exact Nat.le_refl _
theorem lineAt_next (s : List UInt8) (p : Nat) (hp : p < s.length) : p < (lineAt s p).2 ∧ (lineAt s p).2 ≤ s.length ∧ (lineAt s p).1.length ≤ s.length := by
  unfold lineAt
  by_cases h : Lib.indexByte (s.drop p) 10 < 0
  · rw [if_pos h]
    exact ⟨hp, Nat.le_refl _, by simp⟩
  · rw [if_neg h]
    have := indexByte_lt (s.drop p) 10 h
    simp only [List.length_drop] at this
    have h2 := trimSuffix_le ((s.drop p).take (Lib.indexByte (s.drop p) 10).toNat) [13]
    simp only [List.length_take, List.length_drop] at h2
    refine ⟨?_, ?_, ?_⟩ <;> simp only <;> omega

theorem extract_drop (s : List UInt8) (p : Nat) : (⟨s.toArray⟩ : ByteArray).extract p s.length = ⟨(s.drop p).toArray⟩ := by
  apply ByteArray.ext
  apply Array.ext'
  simp
  exact List.take_of_length_le (by simp)
theorem extract_take (s : List UInt8) (i : Nat) : (⟨s.toArray⟩ : ByteArray).extract 0 i = ⟨(s.take i).toArray⟩ := by
  apply ByteArray.ext
  apply Array.ext'
  simp

structure LSt (W : World) (BA BT BS : Nat) (s : List UInt8) (p : Nat) : Prop where
  a : Blk W BA 3 #[.int .i64 p]
  t : Blk W BT 3 #[.int .i64 s.length]
  s : Blk W BS 9 #[.string ⟨s.toArray⟩]
def KpL (BA BT BS : Nat) (A B : World) : Prop := B.heap[BA]? = A.heap[BA]? ∧ B.heap[BT]? = A.heap[BT]? ∧ B.heap[BS]? = A.heap[BS]?
theorem LSt.kp {W W' : World} {BA BT BS : Nat} {s : List UInt8} {p : Nat} (h : LSt W BA BT BS s p) (k : KpL BA BT BS W W') : LSt W' BA BT BS s p := ⟨k.1.trans h.a, k.2.1.trans h.t, k.2.2.trans h.s⟩

def posOf (BA : Nat) (W : World) : Nat := match W.cell? ⟨BA, 0, none⟩ with
  | some v => (intOf v).toNat
  | none => 0

set_option maxRecDepth 100000 in
set_option maxHeartbeats 2000000 in
theorem lines1_in (s : List UInt8) (hs : s.length ≤ 4294967296) (BA BT BS l : Nat) (hne : BA ≠ BT ∧ BA ≠ BS) (J Jx : List (List UInt8 × Nat) → World → Prop) (hJ : ∀ pre A A', J pre A → Chg [BA] A A' → J pre A')
    (hY : ∀ pre (x : List UInt8 × Nat) W, x.1.length ≤ s.length → x.2 ≤ s.length → J pre W → pre.length < s.length → YieldAt Fence.wide (2 - 1) Tryz.prog l #[.string ⟨x.1.toArray⟩, .int .i64 (x.2 : Nat)] W fun e W' =>
      (e = .returned (.bool true) ∧ J (pre ++ [x]) W' ∧ KpL BA BT BS W W') ∨ (e = .returned (.bool false) ∧ Jx (pre ++ [x]) W'))
    (W : World) (hL : LSt W BA BT BS s 0) (h0 : J [] W) :
    CallsIn Fence.wide 2 Tryz.prog 231 #[.func (.yield l) #[] #[], .pointer (some ⟨BA, 0, none⟩), .pointer (some ⟨BT, 0, none⟩), .pointer (some ⟨BS, 0, none⟩)] W fun e W' => (∃ v, e = .returned v) ∧
      ((∃ xs, xs = linesF s.length s 0 ∧ J xs W') ∨ (∃ pre, pre <+: linesF s.length s 0 ∧ Jx pre W')) := by
  refine callsIn_of_wp Tryz.func231 rfl trivial ?_ rfl
  simp only [Tryz.ntmps231, List.size_toArray, List.length_cons, List.length_nil, Nat.reduceAdd, Nat.reduceSub, Array.replicate_succ, Array.replicate_zero, List.push_toArray, List.append_toArray, List.nil_append, List.cons_append]
  refine wpIn_wide.2 ?_
  have HJ := Lib.hid hJ
  have HY := Lib.hid hY
  have HNE := Lib.hid hne
  clear hJ hY hne
  go_wp2_with fail
  go_loopw [5] (fun _ wr => ∃ (p f : Nat) (pre : List (List UInt8 × Nat)), p ≤ s.length ∧ Hid (LSt wr BA BT BS s p) ∧ Hid (J pre wr) ∧ Hid (linesF s.length s 0 = pre ++ linesF f (s.drop p) p ∧ s.length ≤ p + f ∧ pre.length ≤ p)) (fun _ wr => s.length - posOf BA wr)
  case atStart => exact ⟨0, s.length, [], Nat.zero_le _, Lib.hid hL, Lib.hid h0, Lib.hid ⟨by simp, by omega, by simp⟩⟩
  case round =>
    obtain ⟨p, f, pre, hp, HL, HP, HT⟩ := hrel
    have cA : wr.cell? ⟨BA, 0, none⟩ = some (.int .i64 p) := HL.out.a.cell 0
    have cT : wr.cell? ⟨BT, 0, none⟩ = some (.int .i64 s.length) := HL.out.t.cell 0
    have cS : wr.cell? ⟨BS, 0, none⟩ = some (.string ⟨s.toArray⟩) := HL.out.s.cell 0
    by_cases hlt : p < s.length
    · obtain ⟨f', rfl⟩ : ∃ f', f = f' + 1 := ⟨f - 1, by have := HT.out.2.1; omega⟩
      have hstep := linesF_step s p f' hlt
      have hnext := lineAt_next s p hlt
      have hx : (⟨s.toArray⟩ : ByteArray).extract p s.length = ⟨(s.drop p).toArray⟩ := extract_drop s p
      have hla : lineAt s p = if Lib.indexByte (s.drop p) 10 < 0 then (s.drop p, s.length) else (Lib.trimSuffix ((s.drop p).take (Lib.indexByte (s.drop p) 10).toNat) [13], p + ((Lib.indexByte (s.drop p) 10).toNat + 1)) := rfl
      have hDl : (s.drop p).length ≤ 4294967296 := by simp; omega
      have hil := indexByte_lt (s.drop p) 10
      obtain ⟨D, hD⟩ : ∃ D, s.drop p = D := ⟨_, rfl⟩
      rw [hD] at hx hla hDl hil hstep
      have HD := Lib.hid hD
      clear hD
      obtain ⟨x, hx2⟩ : ∃ x, x = lineAt s p := ⟨_, rfl⟩
      rw [← hx2] at hla hstep hnext
      have HX := Lib.hid hx2
      have HST := Lib.hid hstep
      have c1 := fun W => Tryz.strings_IndexByte ⟨D.toArray⟩ 10 W
      have c1 : ∀ W, Calls Tryz.prog 162 #[.string ⟨D.toArray⟩, .int .u8 10] W fun e w' => e = .returned (.int .i64 (Lib.indexByte D 10)) ∧ w' = W := c1
      have c2 := fun (l : List UInt8) (hl : l.length ≤ 4294967296) W => Tryz.strings_TrimSuffix ⟨l.toArray⟩ ⟨#[13]⟩ W (by show l.toArray.size ≤ _; simp; omega)
      have c2 : ∀ (l : List UInt8) (_ : l.length ≤ 4294967296) W, Calls Tryz.prog 232 #[.string ⟨l.toArray⟩, .string ⟨#[13]⟩] W fun e w' => e = .returned (.string ⟨(Lib.trimSuffix l [13]).toArray⟩) ∧ w' = W := c2
      generalize Lib.indexByte D 10 = r at c1 hla hil
      obtain ⟨x1, x2⟩ := x
      have hp0 : (0 : Int) ≤ (p : Int) := by omega
      have hp1 : (p : Int) ≤ (s.length : Int) := by omega
      have hp2 : (p : Int) < (s.length : Int) := by omega
      have HN := Lib.hid hnext
      clear hx2 hstep hnext
      go_wp2_with fail
      go_quiet (fail)
      go_upto_if 19 with (first
        | (go_at_call 162; refine (c1 _).mono ?_; rintro e w2 ⟨rfl, rfl⟩; clear c1)
        | fail)
      obtain ⟨wq, hwq⟩ : ∃ wq : World, wq = wr.drewN nq := ⟨_, rfl⟩
      rw [← hwq]
      have cA : wq.cell? ⟨BA, 0, none⟩ = some (.int .i64 p) := by rw [hwq]; exact cA
      have HWQ := Lib.hid hwq
      clear hwq
      go_cut [5, 6] (fun t nx wx => t = .string ⟨x1.toArray⟩ ∧ nx = .int .i64 (x2 : Nat) ∧ ∃ q, Hid (wx = wq.drewN q))
      case first =>
        by_cases hr : r < 0
        · rw [if_pos hr] at hla
          injection hla with hl1 hl2
          subst hl1 hl2
          have hr2 : ¬ 0 ≤ r := by omega
          go_wp2_with fail
          go_meet
          exact ⟨rfl, rfl, 0, Lib.hid rfl⟩
        · rw [if_neg hr] at hla
          injection hla with hl1 hl2
          subst hl1 hl2
          have hil2 := hil (by omega)
          obtain ⟨i, rfl⟩ : ∃ i : Nat, r = i := ⟨r.toNat, by omega⟩
          simp only [Int.toNat_natCast] at hil2 ⊢
          have hx3 : (⟨D.toArray⟩ : ByteArray).extract 0 i = ⟨(D.take i).toArray⟩ := extract_take D i
          have c3 := c2 (D.take i) (by rw [List.length_take]; omega)
          have hr2 : (0 : Int) ≤ (i : Int) := by omega
          have hr3 : (i : Int) ≤ (D.length : Int) := by omega
          have g1 : IntKind.i64.wrap ((p : Int) + (i : Int)) = (p : Int) + (i : Int) := IntWalk.i64_in _ (by omega)
          have g2 : IntKind.i64.wrap ((p : Int) + (i : Int) + 1) = (p : Int) + (i : Int) + 1 := IntWalk.i64_in _ (by omega)
          clear c2
          go_wp2_with fail
          go_region_with (first
            | (go_at_call 232; refine (c3 _).mono ?_; rintro e w2 ⟨rfl, rfl⟩)
            | fail)
          all_goals
            go_wp2_with fail
            go_meet
            exact ⟨rfl, by simp; omega, 1, Lib.hid rfl⟩
      case rest =>
        obtain ⟨rfl, rfl, q, HW⟩ := hcut
        obtain ⟨we, rfl⟩ : ∃ we : World, we = wc := ⟨_, rfl⟩
        have hce : Chg [] wr we := by
          rw [HW.out, HWQ.out]
          exact ((Chg.refl [] wr).drewN _).drewN _
        have hLe : LSt we BA BT BS s p := ⟨HL.out.a.chg hce (by simp), HL.out.t.chg hce (by simp), HL.out.s.chg hce (by simp)⟩
        have HLE := Lib.hid hLe
        obtain ⟨fn, tmps, assign, body, hy, hR⟩ := HY.out pre (x1, x2) we HN.out.2.2 HN.out.2.1 (HJ.out pre wr we HP.out (hce.mono (by simp))) (by have := HT.out.2.2; omega)
        simp only at hy
        clear hce hLe cA c1 c2 hx hla hil hDl
        refine ‹∀ (a : Act) (w : World), Code.wp Tryz.prog _ _ a w → _› _ _ ?_
        refine (wpIn_wide (n := 2)).1 ?_
        gi_wp2
        refine hR.mono ?_
        rintro e W3 (⟨rfl, hJ3, hk3⟩ | ⟨rfl, hJx3⟩)
        · have hL3 := HLE.out.kp hk3
          have cA : W3.cell? ⟨BA, 0, none⟩ = some (.int .i64 p) := hL3.a.cell 0
          have fA : W3.frozen? ⟨BA, 0, none⟩ = false := hL3.a.frozen 0
          have HL3 := Lib.hid hL3
          have HJ3 := Lib.hid hJ3
          clear hL3 hJ3 hk3 hR
          gi_wp2
          go_roundw
          case rel =>
            refine ⟨x2, f', pre ++ [(x1, x2)], HN.out.2.1, Lib.hid ⟨HL3.out.a.set 0 _, HL3.out.t.far (p := ⟨BA, 0, none⟩) (fun e => HNE.out.1 e.symm) _, HL3.out.s.far (p := ⟨BA, 0, none⟩) (fun e => HNE.out.2 e.symm) _⟩, Lib.hid (HJ.out _ W3 _ HJ3.out ((Chg.refl [BA] W3).set (.inl (by simp)) _)), Lib.hid ⟨?_, ?_, ?_⟩⟩
            · rw [HT.out.1, HD.out, HST.out, List.append_assoc]
              rfl
            · have h1 := HT.out.2.1
              have h2 := HN.out.1
              omega
            · have h1 := HT.out.2.2
              have h2 := HN.out.1
              rw [List.length_append, List.length_singleton]
              omega
          case measure =>
            have h2 := HN.out.1
            have e1 : posOf BA wr = p := by
              unfold posOf
              rw [show wr.cell? ⟨BA, 0, none⟩ = some (.int .i64 p) from HL.out.a.cell 0]
              simp [intOf]
            have e2 : posOf BA (W3.setCell ⟨BA, 0, none⟩ (.int .i64 (x2 : Nat))) = x2 := by
              unfold posOf
              rw [(HL3.out.a.set 0 (.int .i64 (x2 : Nat))).cell 0]
              simp [intOf]
            rw [e1, e2]
            omega
        · gi_wp2
          refine bodyPost_ret (results_none rfl _ _ _) rfl ⟨⟨_, rfl⟩, .inr ⟨_, ?_, hJx3⟩⟩
          rw [HT.out.1, HD.out, HST.out]
          exact ⟨linesF f' (s.drop x2) x2, by rw [List.append_assoc]; rfl⟩
    · have hpe : p = s.length := by omega
      subst hpe
      go_wp2_with fail
      go_end0
      refine ⟨⟨_, rfl⟩, .inl ⟨_, ?_, HP.out⟩⟩
      have h1 := HT.out.1
      have h2 : linesF f (s.drop s.length) s.length = [] := by
        cases f <;> simp [linesF]
      rw [h1, h2, List.append_nil]

/-- A line, and the place behind it, of a text of at most 2147483648 bytes. -/
abbrev Ln := { x : List UInt8 × Nat // x.1.length ≤ 2147483648 ∧ x.2 ≤ 2147483648 }
theorem lines_stops (s : List UInt8) (hs : s.length ≤ 2147483648) (BA BT BS : Nat) (hne : BA ≠ BT ∧ BA ≠ BS) (w : World) (hL : LSt w BA BT BS s 0) :
    SeqStopsC Fence.wide 2 Tryz.prog 231 #[.pointer (some ⟨BA, 0, none⟩), .pointer (some ⟨BT, 0, none⟩), .pointer (some ⟨BS, 0, none⟩)] (fun x : Ln => #[.string ⟨x.1.1.toArray⟩, .int .i64 (x.1.2 : Nat)]) (KpL BA BT BS) BA (fun xs => xs.map (·.1) = linesF s.length s 0) (fun pre => ∃ r, pre.map (·.1) ++ r = linesF s.length s 0) s.length w := fun l J Jx W hW hJ hJx hY h0 => by
  have hL2 : LSt W BA BT BS s 0 := ⟨hL.a.below hW hL.a.lt, hL.t.below hW hL.t.lt, hL.s.below hW hL.s.lt⟩
  refine (lines1_in s (by omega) BA BT BS l hne (fun pre W => ∃ pre' : List Ln, pre'.map (·.1) = pre ∧ J pre' W) (fun pre W => ∃ pre' : List Ln, pre'.map (·.1) = pre ∧ Jx pre' W) ?_ ?_ W hL2 ⟨[], rfl, h0⟩).mono ?_
  · rintro pre A A' ⟨pre', rfl, hj⟩ hc
    exact ⟨pre', rfl, hJ _ A A' hj hc⟩
  · rintro pre x W1 hx1 hx2 ⟨pre', rfl, hj⟩ hlen
    have h := hY pre' ⟨x, by omega, by omega⟩ W1 hj (by simpa using hlen)
    obtain ⟨fn, tmps, assign, body, hy, hR⟩ := h
    refine ⟨fn, tmps, assign, body, hy, hR.mono ?_⟩
    rintro e W' (⟨he, hj', hk⟩ | ⟨he, hj'⟩)
    · exact .inl ⟨he, ⟨_, by simp, hj'⟩, hk⟩
    · exact .inr ⟨he, ⟨_, by simp, hj'⟩⟩
  · rintro e W' ⟨he, ⟨xs, rfl, pre', hm, hj⟩ | ⟨pre, ⟨r, hr⟩, pre', rfl, hj⟩⟩
    · exact ⟨he, .inl ⟨pre', hm, hj⟩⟩
    · exact ⟨he, .inr ⟨pre', ⟨r, hr⟩, hj⟩⟩

end Go.Proofs.YtgkfknbhkonfdaaGreatDoor

namespace Go.Proofs.YtgkfknbhkonfdaaGreatDoor
open Go.Shelf Go.RowKit

def gath (pre : List Ln) : List (List UInt8) := pre.foldl (fun g x => addLine g x.1.1) []
theorem gath_snoc (pre : List Ln) (x : Ln) : gath (pre ++ [x]) = addLine (gath pre) x.1.1 := by simp [gath]
theorem gatherF_from : ∀ (pre : List Ln) (r : List (List UInt8 × Nat)) (g : List (List UInt8)) (b : Nat), (∀ x ∈ pre, x.1.1 ≠ []) → gatherF (pre.map (·.1) ++ r) g b = gatherF r (pre.foldl (fun g x => addLine g x.1.1) g) b
  | [], _, _, _, _ => rfl
  | ⟨(t, p), hx⟩ :: pre, r, g, b, h => by
    have h0 : ¬ t = [] := h ⟨(t, p), hx⟩ (by simp)
    rw [List.map_cons, List.cons_append, gatherF, if_neg h0, gatherF_from pre r _ b (fun y hy => h y (by simp [hy]))]
    rfl
theorem gather_all {L : List (List UInt8 × Nat)} {pre : List Ln} {b : Nat} (hL : pre.map (·.1) = L) (h : ∀ x ∈ pre, x.1.1 ≠ []) : gatherF L [] b = (gath pre, b) := by
  have := gatherF_from pre [] [] b h
  rw [List.append_nil, hL] at this
  exact this
theorem gather_stop {L r : List (List UInt8 × Nat)} {pre : List Ln} {x : Ln} {b : Nat} (hL : (pre ++ [x]).map (·.1) ++ r = L) (h : ∀ x ∈ pre, x.1.1 ≠ []) (hx : x.1.1 = []) : gatherF L [] b = (gath pre, x.1.2) := by
  have h1 := gatherF_from pre (x.1 :: r) [] b h
  rw [List.map_append, List.append_assoc] at hL
  have h2 : pre.map (·.1) ++ x.1 :: r = L := hL
  rw [h2] at h1
  rw [h1]
  obtain ⟨⟨t, p⟩, hx3⟩ := x
  simp only at hx
  subst hx
  rfl

/-- The gathered lines' cell, the body's cell, all else as it was. -/
structure GSt (W0 W : World) (N : Nat) (g : List (List UInt8)) (bp : Nat) : Prop where
  cell : ∃ v h, Blk W (N + 1) 38 #[v] ∧ Sl W 9 1 v h g.length (g.map encStr) ∧ ∀ b, h = some b → N + 5 ≤ b
  body : Blk W N 3 #[.int .i64 bp]
  below : Below N W0 W
theorem GSt.abide {W0 W W' : World} {N : Nat} {g : List (List UInt8)} {bp : Nat} {S : List Nat} (h : GSt W0 W N g bp) (hc : Chg S W W') (hS : ∀ k ∈ S, N + 2 ≤ k ∧ ∀ t cs, W.heap[k]? ≠ some (.cells cs t (0, 0)) ∨ k < N + 5) (hsz : N ≤ W.heap.size) : GSt W0 W' N g bp := by
  obtain ⟨⟨v, hh, h1, h2, h3⟩, h4, h5⟩ := h
  refine ⟨⟨v, hh, h1.chg hc (fun hm => ?_), h2.chg hc (fun b hb hm => ?_), h3⟩, h4.chg hc (fun hm => ?_), h5.trans (hc.below hsz fun k hk => ?_)⟩
  · have := (hS _ hm).1
    omega
  · have h6 := h3 b hb
    rcases h2.2 with ⟨hn, _⟩ | ⟨b', off', cap', cur, hh', hv, hB, _⟩
    · rw [hb] at hn
      cases hn
    · rw [hb] at hh'
      obtain rfl := Option.some.inj hh'
      rcases (hS b hm).2 _ cur with h7 | h7
      · exact h7 hB
      · omega
  · have := (hS _ hm).1
    omega
  · have := (hS k hk).1
    omega

/-- Between two rounds. -/
structure GI (W0 W : World) (N len : Nat) (pre : List Ln) : Prop where
  st : GSt W0 W N (gath pre) len
  ne : ∀ x ∈ pre, x.1.1 ≠ []
  gne : ∀ t ∈ gath pre, t ≠ []
  sum : sumL (gath pre) ≤ pre.length * 2147483648
  glen : (gath pre).length ≤ pre.length
  size : N + 5 ≤ W.heap.size
/-- A round has left: a blank line has come. -/
structure GX (W0 W : World) (N : Nat) (pre : List Ln) : Prop where
  pre_ : ∃ p0 x, pre = p0 ++ [x] ∧ x.1.1 = [] ∧ GSt W0 W N (gath p0) x.1.2 ∧ (∀ x ∈ p0, x.1.1 ≠ []) ∧ (∀ t ∈ gath p0, t ≠ []) ∧ sumL (gath p0) ≤ p0.length * 2147483648 ∧ (gath p0).length ≤ p0.length
  size : N + 5 ≤ W.heap.size
theorem GI.abide {W0 W W' : World} {N len : Nat} {pre : List Ln} {S : List Nat} (h : GI W0 W N len pre) (hc : Chg S W W') (hS : ∀ k ∈ S, N + 2 ≤ k ∧ ∀ t cs, W.heap[k]? ≠ some (.cells cs t (0, 0)) ∨ k < N + 5) : GI W0 W' N len pre :=
  ⟨h.st.abide hc hS (by have := h.size; omega), h.ne, h.gne, h.sum, h.glen, Nat.le_trans h.size hc.size⟩
theorem GX.abide {W0 W W' : World} {N : Nat} {pre : List Ln} {S : List Nat} (h : GX W0 W N pre) (hc : Chg S W W') (hS : ∀ k ∈ S, N + 2 ≤ k ∧ ∀ t cs, W.heap[k]? ≠ some (.cells cs t (0, 0)) ∨ k < N + 5) : GX W0 W' N pre := by
  obtain ⟨⟨p0, x, h1, h2, h3, h4⟩, h5⟩ := h
  exact ⟨⟨p0, x, h1, h2, h3.abide hc hS (by omega), h4⟩, Nat.le_trans h5 hc.size⟩
theorem row_ok {W : World} {N : Nat} {row : Option Nat} (hr : ∀ r, row = some r → N + 5 ≤ r ∧ ∃ o : Obj, W.heap[r]? = some o ∧ o.isCells = false) : ∀ k ∈ row.toList, N + 2 ≤ k ∧ ∀ t cs, W.heap[k]? ≠ some (.cells cs t (0, 0)) ∨ k < N + 5 := by
  intro k hk
  obtain ⟨h1, o, h2, h3⟩ := hr k (by simpa using hk)
  refine ⟨by omega, fun t cs => .inl fun e => ?_⟩
  rw [h2] at e
  injection e with e
  subst e
  cases h3

theorem GI.own (W0 : World) (N len : Nat) : OwnFrom (N + 5) (fun pre W => GI W0 W N len pre) := fun _ _ _ row h hg hr => h.abide (Chg.of_grown hg) (row_ok (row := row) hr)
theorem GX.own (W0 : World) (N : Nat) : OwnFrom (N + 5) (fun pre W => GX W0 W N pre) := fun _ _ _ row h hg hr => h.abide (Chg.of_grown hg) (row_ok (row := row) hr)
theorem GI.cell3 {W0 W W' : World} {N len : Nat} {pre : List Ln} (h : GI W0 W N len pre) (hc : Chg [N + 3] W W') : GI W0 W' N len pre :=
  h.abide hc fun k hk => by
    simp only [List.mem_singleton] at hk
    subst hk
    exact ⟨by omega, fun _ _ => .inr (by omega)⟩
theorem GX.cell3 {W0 W W' : World} {N : Nat} {pre : List Ln} (h : GX W0 W N pre) (hc : Chg [N + 3] W W') : GX W0 W' N pre :=
  h.abide hc fun k hk => by
    simp only [List.mem_singleton] at hk
    subst hk
    exact ⟨by omega, fun _ _ => .inr (by omega)⟩

theorem keeps_of_blk {W W' : World} {S : List Nat} (hc : Chg S W W') (hS : ∀ k ∈ S, ∃ t cs, Blk W k t cs) : KeepsOthers W W' :=
  ⟨hc.size, fun k o hk ho => by
    have hlt : k < W.heap.size := (Array.getElem?_eq_some_iff.1 hk).1
    rw [hc.block k hlt (fun hm => by
      obtain ⟨t, cs, hB⟩ := hS k hm
      unfold Blk at hB
      rw [hk] at hB
      injection hB with hB
      subst hB
      cases ho)]
    exact hk⟩
theorem kpL_of {N : Nat} {W W' : World} {S : List Nat} (hc : Chg S W W') (hS : ∀ k ∈ S, k = N ∨ k = N + 1 ∨ N + 5 ≤ k) (hsz : N + 5 ≤ W.heap.size) : KpL (N + 3) (N + 4) (N + 2) W W' := by
  refine ⟨hc.block _ (by omega) fun hm => ?_, hc.block _ (by omega) fun hm => ?_, hc.block _ (by omega) fun hm => ?_⟩ <;> (have := hS _ hm; omega)
theorem Sl.isBlk {w : World} {e : TypeId} {size n : Nat} {v : Value} {h : Option Nat} {xs : List Value} (hs : Sl w e size v h n xs) : ∀ k ∈ h.toList, ∃ t cs, Blk w k t cs := by
  intro k hk
  have hk : h = some k := by simpa using hk
  rcases hs.2 with ⟨hn, _⟩ | ⟨b', off', cap', cur, hh, hv, hB, _⟩
  · rw [hk] at hn
    cases hn
  · rw [hk] at hh
    obtain rfl := Option.some.inj hh
    exact ⟨e, cur, hB⟩

/-- A line more. -/
theorem GI.push {w W w2 : World} {N len : Nat} {pre : List Ln} (h : GI w W N len pre) (x : Ln) (hne : x.1.1 ≠ []) (hadd : gath (pre ++ [x]) = gath pre ++ [x.1.1]) {n : Nat} (hn : (gath pre).length = n) {v v' : Value} {hh h' : Option Nat} (hB : Blk W (N + 1) 38 #[v]) (hs : Sl W 9 1 v hh n ((gath pre).map encStr)) (hf : ∀ b, hh = some b → N + 5 ≤ b)
    (hs2 : Sl w2 9 1 v' h' (n + 1) ((gath pre).map encStr ++ [encStr x.1.1])) (hc : Chg hh.toList W w2) (ho : h' = hh ∨ ∃ g, h' = some g ∧ W.heap.size ≤ g) :
    KeepsOthers W (w2.setCell ⟨N + 1, 0, none⟩ v') ∧ KpL (N + 3) (N + 4) (N + 2) W (w2.setCell ⟨N + 1, 0, none⟩ v') ∧ GI w (w2.setCell ⟨N + 1, 0, none⟩ v') N len (pre ++ [x]) := by
  subst hn
  have hsz := h.size
  have hc2 : Chg ((N + 1) :: hh.toList) W (w2.setCell ⟨N + 1, 0, none⟩ v') := (hc.mono fun k hk => .inl (List.mem_cons_of_mem _ hk)).set (.inl (by simp)) v'
  have hS : ∀ k ∈ (N + 1) :: hh.toList, k = N ∨ k = N + 1 ∨ N + 5 ≤ k := fun k hk => by
    rcases List.mem_cons.1 hk with rfl | hk
    · exact .inr (.inl rfl)
    · exact .inr (.inr (hf k (by simpa using hk)))
  have hnew : ∀ b, h' = some b → N + 5 ≤ b := fun b hb => by
    rcases ho with h1 | ⟨g, h1, h2⟩
    · exact hf b (by rw [← h1]; exact hb)
    · rw [h1] at hb
      injection hb with hb
      omega
  have hx := x.2.1
  refine ⟨keeps_of_blk hc2 fun k hk => ?_, kpL_of hc2 hS hsz, ⟨⟨⟨v', h', ?_, ?_, hnew⟩, ?_, ?_⟩, ?_, ?_, ?_, ?_, Nat.le_trans hsz hc2.size⟩⟩
  · rcases List.mem_cons.1 hk with rfl | hk
    · exact ⟨_, _, hB⟩
    · exact hs.isBlk k hk
  · exact (hB.chg hc (fun hm => by have := hf (N + 1) (by simpa using hm); omega)).set 0 v'
  · rw [hadd, List.length_append, List.length_singleton, List.map_append]
    exact hs2.far (p := ⟨N + 1, 0, none⟩) (fun e => by have := hnew _ e; simp at this) v'
  · exact (h.st.body.chg hc (fun hm => by have := hf N (by simpa using hm); omega)).far (p := ⟨N + 1, 0, none⟩) (by simp) v'
  · exact h.st.below.trans (hc2.below (by omega) fun k hk => by have := hS k hk; omega)
  · intro y hy
    rcases List.mem_append.1 hy with hy | hy
    · exact h.ne y hy
    · rw [List.mem_singleton] at hy
      subst hy
      exact hne
  · rw [gath_snoc]
    exact addLine_ne h.gne hne
  · rw [gath_snoc, addLine_sum, List.length_append, List.length_singleton]
    have := h.sum
    omega
  · rw [gath_snoc, List.length_append, List.length_singleton]
    have h1 := addLine_length (gath pre) x.1.1
    have h2 := h.glen
    omega

/-- A line goes on with the last one. -/
theorem GI.join {w W : World} {N len : Nat} {pre : List Ln} (h : GI w W N len pre) (x : Ln) (hne : x.1.1 ≠ []) (k : Nat) (hk : (gath pre).length = k + 1) (hk2 : k < (gath pre).length) (hadd : gath (pre ++ [x]) = (gath pre).set k ((gath pre)[k] ++ x.1.1)) {b off n cap : Nat} {hh : Option Nat} (hB : Blk W (N + 1) 38 #[.slice (some ⟨b, off, none⟩) n cap])
    (hn : (gath pre).length = n) (hs : Sl W 9 1 (.slice (some ⟨b, off, none⟩) n cap) hh n ((gath pre).map encStr)) (hf : ∀ b, hh = some b → N + 5 ≤ b) :
    KeepsOthers W (W.setCell ⟨b, off + k, none⟩ (encStr ((gath pre)[k] ++ x.1.1))) ∧ KpL (N + 3) (N + 4) (N + 2) W (W.setCell ⟨b, off + k, none⟩ (encStr ((gath pre)[k] ++ x.1.1))) ∧ GI w (W.setCell ⟨b, off + k, none⟩ (encStr ((gath pre)[k] ++ x.1.1))) N len (pre ++ [x]) := by
  have hsz := h.size
  subst hn
  have hb : hh = some b := hs.owner
  have hb5 := hf b hb
  have hc2 : Chg [b] W (W.setCell ⟨b, off + k, none⟩ (encStr ((gath pre)[k] ++ x.1.1))) := (Chg.refl [b] W).set (.inl (by simp)) _
  have hS : ∀ j ∈ [b], j = N ∨ j = N + 1 ∨ N + 5 ≤ j := fun j hj => by
    rw [List.mem_singleton] at hj
    subst hj
    exact .inr (.inr hb5)
  have hx := x.2.1
  refine ⟨keeps_of_blk hc2 fun j hj => ?_, kpL_of hc2 hS hsz, ⟨⟨⟨.slice (some ⟨b, off, none⟩) (gath pre).length cap, hh, ?_, ?_, hf⟩, ?_, ?_⟩, ?_, ?_, ?_, ?_, Nat.le_trans hsz hc2.size⟩⟩
  · rw [List.mem_singleton] at hj
    subst hj
    exact hs.isBlk j (by rw [hb]; simp)
  · exact hB.far (p := ⟨b, off + k, none⟩) (by simp only; omega) _
  · have h1 := hs.store k (encStr ((gath pre)[k] ++ x.1.1))
    rw [hadd, List.length_set, List.map_set]
    exact h1
  · exact h.st.body.far (p := ⟨b, off + k, none⟩) (by simp only; omega) _
  · exact h.st.below.trans (hc2.below (by omega) fun j hj => by have := hS j hj; omega)
  · intro y hy
    rcases List.mem_append.1 hy with hy | hy
    · exact h.ne y hy
    · rw [List.mem_singleton] at hy
      subst hy
      exact hne
  · rw [gath_snoc]
    exact addLine_ne h.gne hne
  · rw [gath_snoc, addLine_sum, List.length_append, List.length_singleton]
    have := h.sum
    omega
  · rw [gath_snoc, List.length_append, List.length_singleton]
    have h1 := addLine_length (gath pre) x.1.1
    have h2 := h.glen
    omega

/-- A blank line. -/
theorem GI.stop {w W : World} {N len : Nat} {pre : List Ln} (h : GI w W N len pre) (x : Ln) (hx : x.1.1 = []) : KeepsOthers W (W.setCell ⟨N, 0, none⟩ (.int .i64 (x.1.2 : Nat))) ∧ GX w (W.setCell ⟨N, 0, none⟩ (.int .i64 (x.1.2 : Nat))) N (pre ++ [x]) := by
  have hsz := h.size
  have hc2 : Chg [N] W (W.setCell ⟨N, 0, none⟩ (.int .i64 (x.1.2 : Nat))) := (Chg.refl [N] W).set (.inl (by simp)) _
  obtain ⟨v, hh, h1, h2, h3⟩ := h.st.cell
  refine ⟨keeps_of_blk hc2 fun j hj => ?_, ⟨⟨pre, x, rfl, hx, ⟨⟨v, hh, ?_, ?_, h3⟩, ?_, ?_⟩, h.ne, h.gne, h.sum, h.glen⟩, Nat.le_trans hsz hc2.size⟩⟩
  · rw [List.mem_singleton] at hj
    subst hj
    exact ⟨_, _, h.st.body⟩
  · exact h1.far (p := ⟨N, 0, none⟩) (by simp) _
  · exact h2.far (p := ⟨N, 0, none⟩) (fun e => by have := h3 _ e; simp at this; omega) _
  · exact h.st.body.set 0 _
  · exact h.st.below.trans (hc2.below (by omega) fun j hj => by simp at hj; omega)

theorem addLine_last {g : List (List UInt8)} {t : List UInt8} {k : Nat} (hk : g.length = k + 1) (hk2 : k < g.length) (hb : blankB t = true) : addLine g t = g.set k (g[k] ++ t) := by
  have hne : g ≠ [] := by
    rintro rfl
    simp at hk
  obtain ⟨g', z, rfl⟩ : ∃ g' z, g = g' ++ [z] := ⟨g.dropLast, g.getLast hne, (List.dropLast_concat_getLast _).symm⟩
  have hl : g'.length = k := by simpa using hk
  subst hl
  unfold addLine
  rw [if_pos ⟨hne, hb⟩]
  simp
theorem addLine_new {g : List (List UInt8)} {t : List UInt8} (hb : g = [] ∨ blankB t = false) : addLine g t = g ++ [t] := by
  unfold addLine
  rw [if_neg]
  rintro ⟨h1, h2⟩
  rcases hb with hb | hb
  · exact h1 hb
  · rw [hb] at h2
    cases h2

/-- .. the append law in a round's walk. -/
theorem wpListIn_append_sl {F : Fence} {n' : Nat} {P : Program} {W : World} {cs : Array Value} {e' : TypeId} {ops : Array Oper} {rest : List Oper} {o : Oper} {a : Act} {Q : Exit → Act → World → Prop}
    (hgd : o.guard = none) (s x : Operand) (t : TypeId)
    (ho : o.op = .call { callee := .builtin .append, args := #[s, x], argTypes := #[t, t] })
    {e : TypeId} {i : TypeInfo} {z : Value} {size bytes : Nat} (ht : P.underlying t = some (.slice e)) (hi : P.info? e = some i) (hz : i.zero = some z)
    (hsize : i.size = size) (hby : i.bytes = bytes) (hzs : z.cells.size = size) (hsz : 0 < size)
    {v : Value} {h : Option Nat} {n : Nat} {xs : List Value} (hsl : Sl W e size v h n xs) (hs : a.eval s = v)
    (m c : Nat) (hx : a.eval x = .slice (some ⟨W.heap.size, 0, none⟩) m c) (hl : cs.toList.length = m * size) (h1 : ∀ u ∈ cs.toList, u.oneCell' = true)
    (h63 : n + m ≤ maxLen) (hbytes : (n + m) * bytes ≤ 140737488355328)
    (hk : ∀ v' h' w', Sl w' e size v' h' (n + m) (xs ++ cs.toList) → Chg h.toList W w' → (h' = h ∨ ∃ g, h' = some g ∧ W.heap.size ≤ g) → wpListIn F n' P ops Q rest (a.put o.dst v') w') :
    wpListIn F n' P ops Q (o :: rest) a (W.alloc (.cells cs e')) := by
  refine wpListIn_plain hgd fun K hK' => ?_
  obtain ⟨v', h', w', hr, r1, r2, r3⟩ := run_append_sl (P := P) (W.alloc (.cells cs e')) (ty := o.type) ht hi hz hsize hby hzs hsz (hsl.alloc _) ⟨W.heap.size, 0, none⟩ m c cs.toList hl (fun j u hj => by
    rw [Addr.add_zero_off, World.cell?_alloc_at _ _ _ _ rfl]
    simpa using hj) h1 h63 hbytes
  unfold Oper.wpIn
  refine ⟨?_, ?_⟩
  · simp [Oper.about, ho, resolve, Target.leads, Sem.run_pure]
  · rw [Oper.semAt_plain F _ _ (by rw [ho]; intro c hc'; cases hc')]
    simp [execOp, ho, resolve, invoke, builtin, hs, hx, hr, Result.andThen]
    refine hK' _ _ (hk v' h' w' r1 ⟨r2.os, r2.tape, r2.output, Nat.le_trans (by simp) r2.size, fun k hk hn => (r2.block k (by simp; omega) hn).trans (Below.heap_alloc _ _ _ hk)⟩ ?_)
    rcases r3 with h2 | ⟨g, h2, h3⟩
    · exact .inl h2
    · exact .inr ⟨g, h2, by simp at h3; omega⟩

/-! ### The fields -/
theorem fieldsG_append (a b : List (List UInt8)) : fieldsG (a ++ b) = fieldsG a ++ fieldsG b := by simp [fieldsG]
def fieldOf (s : List UInt8) : List (List UInt8 × List UInt8) := if (oneF s).2 then [(oneF s).1] else []
theorem fieldsG_one (s : List UInt8) : fieldsG [s] = fieldOf s := by
  unfold fieldsG fieldOf
  by_cases h : (oneF s).2 = true <;> simp [h]
theorem fieldsF_zero (s : List UInt8) (r : List (List UInt8)) : fieldsF ((s :: r).take 1) = if blankB s = true then [] else fieldOf s := by
  show fieldsG (if blankB s = true then [] else [s]) = _
  split
  · rfl
  · exact fieldsG_one s
theorem fieldsF_succ (g : List (List UInt8)) (k : Nat) (hk : k < g.length) (h0 : 0 < k) : fieldsF (g.take (k + 1)) = fieldsF (g.take k) ++ fieldOf g[k] := by
  rw [List.take_succ_eq_append_getElem hk]
  cases g with
  | nil => simp at hk
  | cons s r =>
    obtain ⟨j, rfl⟩ : ∃ j, k = j + 1 := ⟨k - 1, by omega⟩
    rw [List.take_succ_cons, List.cons_append]
    show fieldsG (if blankB s = true then _ else _) = fieldsG (if blankB s = true then _ else _) ++ _
    split
    · rw [fieldsG_append, fieldsG_one]
    · rw [← List.cons_append, fieldsG_append, fieldsG_one]

theorem linesF_length : ∀ (f : Nat) (s : List UInt8) (p : Nat), (linesF f s p).length ≤ f
  | 0, _, _ => by simp [linesF]
  | f + 1, s, p => by
    unfold linesF
    split
    · simp
    · split
      · simp
      · have := linesF_length f (s.drop ((Lib.indexByte s 10).toNat + 1)) (p + ((Lib.indexByte s 10).toNat + 1))
        simp only [List.length_cons]
        omega

theorem fieldsF_le (g : List (List UInt8)) (k : Nat) : (fieldsF (g.take k)).length ≤ k := by
  have h : ∀ l : List (List UInt8), (fieldsF l).length ≤ l.length := by
    intro l
    cases l with
    | nil => simp [fieldsF]
    | cons s r =>
      show (fieldsG _).length ≤ _
      unfold fieldsG
      refine Nat.le_trans (List.length_filterMap_le _ _) ?_
      split <;> simp
  exact Nat.le_trans (h _) (by rw [List.length_take]; omega)
def sumP (l : List (List UInt8 × Nat)) : Nat := (l.map fun x => x.1.length).sum
theorem sumP_append (a b : List (List UInt8 × Nat)) : sumP (a ++ b) = sumP a + sumP b := by simp [sumP]
theorem linesF_sum : ∀ (f : Nat) (s : List UInt8) (p : Nat), sumP (linesF f s p) ≤ s.length
  | 0, _, _ => by simp [linesF, sumP]
  | f + 1, s, p => by
    unfold linesF
    split
    · simp [sumP]
    · split
      · simp [sumP]
      · rename_i h2
        have h1 := linesF_sum f (s.drop ((Lib.indexByte s 10).toNat + 1)) (p + ((Lib.indexByte s 10).toNat + 1))
        have h3 := trimSuffix_le (s.take (Lib.indexByte s 10).toNat) [13]
        have h4 := indexByte_lt s 10 h2
        simp only [List.length_drop, List.length_take] at h1 h3
        have h5 : ∀ (t : List UInt8) (q : Nat) (l : List (List UInt8 × Nat)), sumP ((t, q) :: l) = t.length + sumP l := fun t q l => by simp [sumP]
        rw [h5]
        omega
theorem sumL_gath (pre : List Ln) : sumL (gath pre) = sumP (pre.map (·.1)) := by
  have h : ∀ (l : List Ln) (g : List (List UInt8)), sumL (l.foldl (fun g x => addLine g x.1.1) g) = sumL g + sumP (l.map (·.1)) := by
    intro l
    induction l with
    | nil => intro g; simp [sumP]
    | cons x r ih =>
      intro g
      rw [List.foldl_cons, ih, addLine_sum]
      simp [sumP]
      omega
  have := h pre []
  simpa [gath, sumL] using this

/-- Behind the loop over the lines. -/
structure GF (W0 W : World) (N : Nat) (s : List UInt8) (g : List (List UInt8)) (bp : Nat) : Prop where
  st : GSt W0 W N g bp
  gne : ∀ t ∈ g, t ≠ []
  sum : sumL g ≤ 2147483648
  glen : g.length ≤ 2147483648
  size : N + 5 ≤ W.heap.size
  fields : (splitF s).1 = fieldsF g
  body : (splitF s).2 = bp
theorem GI.gf {W0 W : World} {N : Nat} {s : List UInt8} {xs : List Ln} (h : GI W0 W N s.length xs) (hs : s.length ≤ 2147483648) (hS : xs.map (·.1) = linesF s.length s 0) : GF W0 W N s (gath xs) s.length := by
  have h1 := gather_all (b := s.length) hS h.ne
  have h2 : xs.length ≤ s.length := by
    have := linesF_length s.length s 0
    rw [← hS, List.length_map] at this
    exact this
  have h3 : sumL (gath xs) ≤ s.length := by
    rw [sumL_gath, hS]
    exact linesF_sum _ _ _
  have h4 := h.glen
  have e1 : (splitF s).1 = fieldsF (gath xs) := by
    unfold splitF
    rw [h1]
  have e2 : (splitF s).2 = s.length := by
    unfold splitF
    rw [h1]
  exact ⟨h.st, h.gne, Nat.le_trans h3 hs, Nat.le_trans h4 (Nat.le_trans h2 hs), h.size, e1, e2⟩
theorem GX.gf {W0 W : World} {N : Nat} {s : List UInt8} {pre : List Ln} (h : GX W0 W N pre) (hs : s.length ≤ 2147483648) (hS : ∃ r, pre.map (·.1) ++ r = linesF s.length s 0) : ∃ g bp, GF W0 W N s g bp := by
  obtain ⟨⟨p0, x, rfl, hx, hst, hne, hgne, _, hgl⟩, hsz⟩ := h
  obtain ⟨r, hr⟩ := hS
  have h1 := gather_stop (b := s.length) hr hne hx
  have h2 : p0.length ≤ s.length := by
    have := linesF_length s.length s 0
    rw [← hr] at this
    simp only [List.length_append, List.length_map, List.length_singleton] at this
    omega
  have h5 : sumL (gath p0) ≤ s.length := by
    have h6 := linesF_sum s.length s 0
    rw [← hr, List.map_append, sumP_append, sumP_append] at h6
    rw [sumL_gath]
    omega
  have e1 : (splitF s).1 = fieldsF (gath p0) := by
    unfold splitF
    rw [h1]
  have e2 : (splitF s).2 = x.1.2 := by
    unfold splitF
    rw [h1]
  exact ⟨gath p0, x.1.2, hst, hgne, Nat.le_trans h5 hs, Nat.le_trans hgl (Nat.le_trans h2 hs), hsz, e1, e2⟩

/-- What the loop over the gathered lines keeps. -/
structure FRel (w wr : World) (N : Nat) (g : List (List UInt8)) (bp D : Nat) (gv : Value) (hg : Option Nat) (k : Nat) (f : Value) : Prop where
  fs : ∃ h, Sl wr 242 2 f h (fieldsF (g.take k)).length (flatG encF (fieldsF (g.take k))) ∧ ∀ b, h = some b → N ≤ b
  gs : Sl wr 9 1 gv hg g.length (g.map encStr)
  gf : ∀ b, hg = some b → N ≤ b
  body : Blk wr N 3 #[.int .i64 bp]
  below : Below N w wr
  dD : wr.heap[D]? = some (.deferred (some []))
theorem FRel.later {w wr W : World} {N : Nat} {g : List (List UInt8)} {bp D : Nat} {gv : Value} {hg : Option Nat} {k : Nat} {f : Value} (h : FRel w wr N g bp D gv hg k f) (hN : N ≤ wr.heap.size) (hb : Below wr.heap.size wr W) : FRel w W N g bp D gv hg k f := by
  obtain ⟨hh, h1, h2⟩ := h.fs
  exact ⟨⟨hh, h1.keep (fun b hb2 => hb.block b (h1.lt b hb2)), h2⟩, h.gs.keep (fun b hb2 => hb.block b (h.gs.lt b hb2)), h.gf, h.body.below hb h.body.lt, h.below.trans (hb.mono hN), (hb.block D (Array.getElem?_eq_some_iff.1 h.dD).1).trans h.dD⟩
theorem FRel.same {w wr : World} {N : Nat} {g : List (List UInt8)} {bp D : Nat} {gv : Value} {hg : Option Nat} {k k' : Nat} {f : Value} (h : FRel w wr N g bp D gv hg k f) (he : fieldsF (g.take k') = fieldsF (g.take k)) : FRel w wr N g bp D gv hg k' f := by
  refine ⟨?_, h.gs, h.gf, h.body, h.below, h.dD⟩
  rw [he]
  exact h.fs
theorem FRel.more {w wr W2 : World} {N : Nat} {g : List (List UInt8)} {bp D : Nat} {gv : Value} {hg : Option Nat} {k : Nat} {f f' : Value} {x : List UInt8 × List UInt8} (h : FRel w wr N g bp D gv hg k f) (hN : N ≤ wr.heap.size) (he : fieldsF (g.take (k + 1)) = fieldsF (g.take k) ++ [x]) {hh h' : Option Nat} (hs : Sl wr 242 2 f hh (fieldsF (g.take k)).length (flatG encF (fieldsF (g.take k)))) (hf : ∀ b, hh = some b → N ≤ b)
    (hs2 : Sl W2 242 2 f' h' ((fieldsF (g.take k)).length + 1) (flatG encF (fieldsF (g.take k)) ++ encF x)) (hc : Chg hh.toList wr W2) (ho : h' = hh ∨ ∃ g, h' = some g ∧ wr.heap.size ≤ g) : FRel w W2 N g bp D gv hg (k + 1) f' := by
  refine ⟨⟨h', ?_, fun b hb => ?_⟩, h.gs.chg hc (fun b hb hm => h.gs.ne_sl hs (by decide) b hb (by simpa using hm)), h.gf, h.body.chg hc (fun hm => hs.ne_blk h.body (by decide) N (by simpa using hm) rfl), h.below.trans (hc.below hN fun k hk => hf k (by simpa using hk)), ?_⟩
  · rw [he, List.length_append, List.length_singleton, flatG_snoc]
    exact hs2
  · rcases ho with h3 | ⟨g2, h3, h4⟩
    · exact hf b (by rw [← h3]; exact hb)
    · rw [h3] at hb
      injection hb with hb
      omega
  · refine (hc.block D (Array.getElem?_eq_some_iff.1 h.dD).1 fun hm => ?_).trans h.dD
    obtain ⟨t, cs, hB⟩ := hs.isBlk D hm
    unfold Blk at hB
    rw [h.dD] at hB
    cases hB

theorem FRel.done {w wr : World} {N : Nat} {g : List (List UInt8)} {bp D : Nat} {gv : Value} {hg : Option Nat} {k : Nat} {f : Value} (h : FRel w wr N g bp D gv hg k f) (hND : N ≠ D) (hN : N ≤ wr.heap.size) (hD : N ≤ D) :
    (∃ hh, Sl ((wr.drew.setCell ⟨N, 0, none⟩ (.int .i64 bp)).putObj D (.deferred none)) 242 2 f hh (fieldsF (g.take k)).length (flatG encF (fieldsF (g.take k))) ∧ ∀ b, hh = some b → N ≤ b) ∧ Below N w ((wr.drew.setCell ⟨N, 0, none⟩ (.int .i64 bp)).putObj D (.deferred none)) ∧
      ((wr.drew.setCell ⟨N, 0, none⟩ (.int .i64 bp)).putObj D (.deferred none)).cell? ⟨N, 0, none⟩ = some (.int .i64 bp) ∧ (wr.drew.setCell ⟨N, 0, none⟩ (.int .i64 bp)).heap[D]? = some (.deferred (some [])) := by
  have hdD : (wr.drew.setCell ⟨N, 0, none⟩ (.int .i64 bp)).heap[D]? = some (.deferred (some [])) := (Below.heap_setCell wr.drew ⟨N, 0, none⟩ _ D (fun e => hND e.symm)).trans h.dD
  have hbody : Blk (wr.drew.setCell ⟨N, 0, none⟩ (.int .i64 bp)) N 3 #[.int .i64 bp] := (h.body.heap (w' := wr.drew) rfl).set 0 _
  have hc : Chg [N, D] wr ((wr.drew.setCell ⟨N, 0, none⟩ (.int .i64 bp)).putObj D (.deferred none)) := by
    have hc0 : Chg [N, D] wr (wr.drew.setCell ⟨N, 0, none⟩ (.int .i64 bp)) := ((Chg.refl [N, D] wr).drew).set (.inl (by simp)) _
    refine ⟨hc0.os, hc0.tape, hc0.output, by rw [World.putObj_size]; exact hc0.size, fun j hj hn => ?_⟩
    have hn2 : ¬ j = N ∧ ¬ j = D := by simpa using hn
    exact (World.putObj_heap_other hn2.2).trans (hc0.block j hj hn)
  obtain ⟨hh, h1, h2⟩ := h.fs
  refine ⟨⟨hh, h1.chg hc (fun b hb hm => ?_), h2⟩, h.below.trans (hc.below hN fun j hj => ?_), ?_, hdD⟩
  · simp only [List.mem_cons, List.not_mem_nil, or_false] at hm
    rcases hm with rfl | rfl
    · exact h1.ne_blk h.body (by decide) b hb rfl
    · obtain ⟨t, cs, hB⟩ := h1.isBlk b (by simpa using hb)
      unfold Blk at hB
      rw [h.dD] at hB
      cases hB
  · simp only [List.mem_cons, List.not_mem_nil, or_false] at hj
    omega
  · have hB : Blk ((wr.drew.setCell ⟨N, 0, none⟩ (.int .i64 bp)).putObj D (.deferred none)) N 3 #[.int .i64 bp] := (World.putObj_heap_other hND).trans hbody
    exact hB.cell 0

theorem cut_le (s sep : List UInt8) : (Lib.cut s sep).1.length ≤ s.length ∧ (Lib.cut s sep).2.1.length ≤ s.length := by
  unfold Lib.cut
  split
  · simp only [List.length_take, List.length_drop]
    omega
  · simp
theorem sumL_mem {g : List (List UInt8)} {t : List UInt8} (h : t ∈ g) : t.length ≤ sumL g := by
  obtain ⟨a, b, rfl⟩ := List.append_of_mem h
  rw [sumL_append, show t :: b = [t] ++ b from rfl, sumL_append]
  have : sumL [t] = t.length := by simp [sumL]
  omega

end Go.Proofs.YtgkfknbhkonfdaaGreatDoor

namespace Go.Proofs.YtgkfknbhkonfdaaGreatDoor
open Go.Shelf Go.RowKit
attribute [local go_sem ↓] Go.wp_at_zero Go.wp_at_succ
attribute [local go_sem] Oper.semAt_some

theorem Try.infoField : (Tryz.prog.info? 242).map (fun i => (i.zero, i.size, i.bytes)) = some (some (.agg #[.string ⟨#[]⟩, .string ⟨#[]⟩]), 2, 32) := by kernel_rfl

theorem split_start (w : World) (s : List UInt8) : GI w (((((w.alloc (.cells #[.int .i64 s.length] 3)).alloc (.cells #[.slice none 0 0] 38)).alloc (.cells #[.string ⟨s.toArray⟩] 9)).alloc (.cells #[.int .i64 0] 3)).alloc (.cells #[.int .i64 s.length] 3)) w.heap.size s.length [] := by
  refine ⟨⟨⟨.slice none 0 0, none, ?_, Sl.nil _ _ _, fun b hb => by cases hb⟩, ?_, ?_⟩, fun x hx => by simp at hx, fun t ht => by simp [gath] at ht, by simp [gath, sumL], by simp [gath], by simp⟩
  · exact (((blk_new2 w _ _ _).alloc _).alloc _).alloc _
  · exact ((((Blk.new w _ _).alloc _).alloc _).alloc _).alloc _
  · exact below_then (below_then (below_then (below_then (below_alloc1 w _) (below_alloc1 _ _)) (below_alloc1 _ _)) (below_alloc1 _ _)) (below_alloc1 _ _)
theorem split_start3 (w : World) (s : List UInt8) : LSt (((((w.alloc (.cells #[.int .i64 s.length] 3)).alloc (.cells #[.slice none 0 0] 38)).alloc (.cells #[.string ⟨s.toArray⟩] 9)).alloc (.cells #[.int .i64 0] 3)).alloc (.cells #[.int .i64 s.length] 3)) (w.heap.size + 3) (w.heap.size + 4) (w.heap.size + 2) s 0 := by
  have h2 := Blk.new ((w.alloc (.cells #[.int .i64 s.length] 3)).alloc (.cells #[.slice none 0 0] 38)) 9 #[.string ⟨s.toArray⟩]
  have h3 := Blk.new (((w.alloc (.cells #[.int .i64 s.length] 3)).alloc (.cells #[.slice none 0 0] 38)).alloc (.cells #[.string ⟨s.toArray⟩] 9)) 3 #[.int .i64 0]
  have h4 := Blk.new ((((w.alloc (.cells #[.int .i64 s.length] 3)).alloc (.cells #[.slice none 0 0] 38)).alloc (.cells #[.string ⟨s.toArray⟩] 9)).alloc (.cells #[.int .i64 0] 3)) 3 #[.int .i64 s.length]
  simp only [World.size_alloc] at h2 h3 h4
  exact ⟨h3.alloc _, h4, (h2.alloc _).alloc _⟩
theorem kpL_trans {BA BT BS : Nat} {A B C : World} (h : KpL BA BT BS A B) (k : KpL BA BT BS B C) : KpL BA BT BS A C := ⟨k.1.trans h.1, k.2.1.trans h.2.1, k.2.2.trans h.2.2⟩
theorem kpL_put {BA BT BS B : Nat} (h : BA < B ∧ BT < B ∧ BS < B) (W : World) (l : Nat) (o o' : Obj) (hl : B ≤ l) (_ : W.heap[l]? = some o) (_ : o.isCells = false) (_ : o.isWalk = false) : KpL BA BT BS W (W.putObj l o') :=
  ⟨World.putObj_heap_other (by omega), World.putObj_heap_other (by omega), World.putObj_heap_other (by omega)⟩

set_option maxRecDepth 100000 in
set_option maxHeartbeats 4000000 in
theorem split_any (s : List UInt8) (hs : s.length ≤ 2147483648) (w : World) :
    Calls Tryz.prog 132 #[.string ⟨s.toArray⟩, .int .i64 0, .int .i64 s.length] w fun e w' => ∃ v hh, e = .returned (.tuple #[v, .int .i64 ((splitF s).2 : Nat)]) ∧ Sl w' 242 2 v hh (splitF s).1.length (flatG encF (splitF s).1) ∧ (∀ b, hh = some b → w.heap.size ≤ b) ∧ Below w.heap.size w w' := by
  obtain ⟨i0, hi, hz0, hz1, hz2⟩ := info_parts Try.infoString
  obtain ⟨j0, hj, hj0, hj1, hj2⟩ := info_parts Try.infoField
  have hln := fun W => lines_any ⟨s.toArray⟩ 0 s.length W
  have n1 : ¬ (s.length : Int) < 0 := by omega
  refine (callsIn_wide (n := 3)).1 ?_
  refine callsIn_of_wp_marks Tryz.func132 rfl trivial ?_ rfl
  simp only [Tryz.ntmps132, List.size_toArray, List.length_cons, List.length_nil, Nat.reduceAdd, Nat.reduceSub, Array.replicate_succ, Array.replicate_zero, List.push_toArray, List.append_toArray, List.nil_append, List.cons_append]
  refine wpIn_wide.2 ?_
  go_wp2_with (first
    | (go_at_call 180; refine (hln _).mono ?_; rintro e w1 ⟨rfl, rfl⟩; clear hln)
    | fail)
  obtain ⟨N, hN⟩ : ∃ N, w.heap.size = N := ⟨_, rfl⟩
  obtain ⟨W0, hW0⟩ : ∃ W0 : World, W0 = ((((w.alloc (.cells #[.int .i64 s.length] 3)).alloc (.cells #[.slice none 0 0] 38)).alloc (.cells #[.string ⟨s.toArray⟩] 9)).alloc (.cells #[.int .i64 0] 3)).alloc (.cells #[.int .i64 s.length] 3) := ⟨_, rfl⟩
  rw [← hW0]
  have hsz : W0.heap.size = N + 5 := by rw [hW0]; simp; omega
  have hlst : LSt W0 (N + 3) (N + 4) (N + 2) s 0 := by
    subst hN
    rw [hW0]
    exact split_start3 w s
  have hgi : GI w W0 N s.length [] := by
    subst hN
    rw [hW0]
    exact split_start w s
  rw [hN]
  refine' wpIn_wide.1 (wpIn_rangeFunc_ownC (F := Fence.wide) (n := 3) (N := s.length) (B := N + 3) rfl (by decide) (gf := 231) (lb := #[.pointer (some ⟨N + 3, 0, none⟩), .pointer (some ⟨N + 4, 0, none⟩), .pointer (some ⟨N + 2, 0, none⟩)]) rfl trivial (enters_of Tryz.func231 (by kernel_rfl) rfl)
    (lines_stops s hs (N + 3) (N + 4) (N + 2) (by omega) W0 hlst) (by omega) kpL_trans (kpL_put (by omega)) (fun _ => rfl)
    (fun pre W => GI w W N s.length pre) (fun c pre W => c = .exit 0 ∧ GX w W N pre) (hsz ▸ GI.own w N s.length) ?ix (fun pre A A' h hc => h.cell3 hc) (fun c pre A A' h hc => ⟨h.1, h.2.cell3 hc⟩) hgi _ ?assign ?body ?done ?stop)
  case ix =>
    intro c
    rw [hsz]
    exact fun pre A A' row h hg hr => ⟨h.1, GX.own w N pre A A' row h.2 hg hr⟩
  case assign =>
    intro l x W K hK
    gi_wp2
    exact hK
  case body =>
    rintro l pre x W hI hlen
    have HI := Lib.hid hI
    obtain ⟨v, hh, hB, hSl, hf⟩ := hI.st.cell
    obtain ⟨n, hn⟩ : ∃ n, (gath pre).length = n := ⟨_, rfl⟩
    rw [hn] at hSl
    have HB := Lib.hid hB
    have HF := Lib.hid hf
    have HS := Lib.hid hSl
    have c1 : W.cell? ⟨N + 1, 0, none⟩ = some v := hB.cell 0
    have f1 : W.frozen? ⟨N + 1, 0, none⟩ = false := hB.frozen 0
    have c0 : W.cell? ⟨N, 0, none⟩ = some (.int .i64 s.length) := hI.st.body.cell 0
    have f0 : W.frozen? ⟨N, 0, none⟩ = false := hI.st.body.frozen 0
    have hgl := hI.glen
    rw [hn] at hgl
    have HN := Lib.hid hn
    have hsum := hI.sum
    have hx1 := x.2.1
    clear hI hB hf hn
    obtain ⟨t, hte⟩ : ∃ t, x.1.1 = t := ⟨_, rfl⟩
    obtain ⟨nx, hnx⟩ : ∃ nx, x.1.2 = nx := ⟨_, rfl⟩
    have HX := Lib.hid hte
    have HNX := Lib.hid hnx
    rw [hte] at hx1 ⊢
    rw [hnx]
    clear hte hnx
    obtain ⟨A, cap, rfl, hnc, hcm⟩ := hSl.form
    clear hnc hcm
    rcases t with _ | ⟨c, r⟩
    · have hst := HI.out.stop x HX.out
      rw [HNX.out] at hst
      have HST := Lib.hid hst
      clear hst
      gi_wp2
      exact ⟨HST.out.1, rfl, HST.out.2⟩
    · have hidx : ∀ h : 0 < (⟨(c :: r).toArray⟩ : ByteArray).size, (⟨(c :: r).toArray⟩ : ByteArray)[0]'h = c := fun _ => rfl
      have hne : x.1.1 ≠ [] := by rw [HX.out]; simp
      have HNE := Lib.hid hne
      clear hne
      have hbl : blankB (c :: r) = (decide (c = 32) || decide (c = 9)) := by simp [blankB]
      by_cases hg : gath pre = []
      · have hadd : gath (pre ++ [x]) = gath pre ++ [x.1.1] := by rw [gath_snoc]; exact addLine_new (.inl hg)
        have HADD := Lib.hid hadd
        have hg0 : n = 0 := by rw [← HN.out, hg]; rfl
        subst hg0
        clear hadd hbl hg
        · gi_wp2_with (first
            | (gi_at_builtin; refine wpListIn_append_sl rfl _ _ 38 rfl Tryz.underlying38 hi hz0 hz1 hz2 rfl (by decide) HS.out rfl 1 1 rfl rfl ?_ ?_ ?_ ?_)
            | fail)
          any_goals (first | (simp [Value.oneCell']; done) | (unfold maxLen; omega) | omega | rfl)
          · intro v2 h2 w3 hs3 hc3 ho3
            obtain ⟨A2, cap3, rfl, _, _⟩ := hs3.form
            have hp := HI.out.push x HNE.out HADD.out HN.out HB.out HS.out HF.out (by rw [HX.out]; exact hs3) hc3 ho3
            have k1 : w3.cell? ⟨N + 1, 0, none⟩ = some (.slice A 0 cap) := (HB.out.chg hc3 (fun hm => by have := HF.out (N + 1) (by simpa using hm); omega)).cell 0
            have kf : w3.frozen? ⟨N + 1, 0, none⟩ = false := (HB.out.chg hc3 (fun hm => by have := HF.out (N + 1) (by simpa using hm); omega)).frozen 0
            have HPU := Lib.hid hp
            clear hs3 hc3 ho3 hp
            gi_wp2
            exact HPU.out
      · obtain ⟨k, rfl⟩ : ∃ k, n = k + 1 := ⟨n - 1, by
          have h1 : (gath pre).length ≠ 0 := fun h => hg (List.eq_nil_of_length_eq_zero h)
          rw [HN.out] at h1
          omega⟩
        have g0 : (0 : Int) < (k : Int) + 1 := by omega
        by_cases hb : blankB (c :: r) = true
        · have hkl : k < (gath pre).length := by rw [HN.out]; omega
          have hadd : gath (pre ++ [x]) = (gath pre).set k ((gath pre)[k] ++ x.1.1) := by
            rw [gath_snoc]
            exact addLine_last HN.out hkl (by rw [HX.out]; exact hb)
          obtain ⟨b, off, cap', hva, hv, _, _, hbl2, hat⟩ := hSl.at_ (by omega)
          injection hv with hv1 hv2 hv3
          subst hv1 hv3
          clear hv2
          have hp := HI.out.join x HNE.out k HN.out hkl hadd HB.out HN.out HS.out HF.out
          obtain ⟨ca0, cb⟩ := hat k (by omega)
          have ca : W.cell? ⟨b, off + k, none⟩ = some (.string ⟨(gath pre)[k].toArray⟩) := ca0.trans (by simp [hkl, encStr])
          clear ca0
          have hlast : (gath pre)[k].length ≤ sumL (gath pre) := sumL_mem (List.getElem_mem hkl)
          rw [HX.out] at hp
          generalize (gath pre)[k] = la at ca hp hlast
          have HPU := Lib.hid hp
          have g5 : IntKind.i64.wrap ((k : Int) + 1 - 1) = (k : Int) := by rw [show (k : Int) + 1 - 1 = k from by omega]; exact IntWalk.i64_in _ (by omega)
          have g6 : IntKind.i64.wrap (k : Int) = (k : Int) := IntWalk.i64_in _ (by omega)
          have g7 : (k : Int) < (k : Int) + 1 := by omega
          have g8 : (0 : Int) ≤ (k : Int) := by omega
          have hx2 : r.length + 1 ≤ 2147483648 := by simpa using hx1
          have n2 : ¬ 9223372036854775807 < la.length + (r.length + 1) := by omega
          have hap := fun (a b : List UInt8) => ByteArray.mk_append_mk a b
          have hc : c = 32 ∨ c = 9 := by
            rw [hbl] at hb
            simpa using hb
          clear hb hbl hat hadd hg hp hlast hSl
          rcases hc with rfl | rfl
          · gi_wp2
            exact HPU.out
          · gi_wp2
            exact HPU.out
        · have hadd : gath (pre ++ [x]) = gath pre ++ [x.1.1] := by rw [gath_snoc]; exact addLine_new (.inr (by rw [HX.out]; simpa using hb))
          have HADD := Lib.hid hadd
          have hc : ¬ c = 32 ∧ ¬ c = 9 := by
            rw [hbl] at hb
            simpa using hb
          have h32 : ¬ (c.toNat : Int) = 32 := fun h => hc.1 (by
            have h2 : c.toNat = 32 := by omega
            exact UInt8.toNat_inj.1 h2)
          have h9 : ¬ (c.toNat : Int) = 9 := fun h => hc.2 (by
            have h2 : c.toNat = 9 := by omega
            exact UInt8.toNat_inj.1 h2)
          have hq32 : ((c.toNat : Int) == 32) = false := by simpa using h32
          have hq9 : ((c.toNat : Int) == 9) = false := by simpa using h9
          clear hadd hbl hg hb hc h32 h9
          · gi_wp2_with (first
              | (gi_at_builtin; refine wpListIn_append_sl rfl _ _ 38 rfl Tryz.underlying38 hi hz0 hz1 hz2 rfl (by decide) HS.out rfl 1 1 rfl rfl ?_ ?_ ?_ ?_)
              | fail)
            any_goals (first | (simp [Value.oneCell']; done) | (unfold maxLen; omega) | omega | rfl)
            · intro v2 h2 w3 hs3 hc3 ho3
              obtain ⟨A2, cap3, rfl, _, _⟩ := hs3.form
              have hp := HI.out.push x HNE.out HADD.out HN.out HB.out HS.out HF.out (by rw [HX.out]; exact hs3) hc3 ho3
              have k1 : w3.cell? ⟨N + 1, 0, none⟩ = some (.slice A (k + 1) cap) := (HB.out.chg hc3 (fun hm => by have := HF.out (N + 1) (by simpa using hm); omega)).cell 0
              have kf : w3.frozen? ⟨N + 1, 0, none⟩ = false := (HB.out.chg hc3 (fun hm => by have := HF.out (N + 1) (by simpa using hm); omega)).frozen 0
              have HPU := Lib.hid hp
              clear hs3 hc3 ho3 hp
              gi_wp2
              exact HPU.out
  case done =>
    rintro D xs W hD hS hI hK
    obtain ⟨g, bp, hF⟩ : ∃ g bp, GF w W N s g bp := ⟨_, _, hI.gf hs hS⟩
    clear hI hS
    obtain ⟨gv, hg, hgB, hgS, hgF⟩ := hF.st.cell
    obtain ⟨A, cap, rfl, _, _⟩ := hgS.form
    obtain ⟨n, hn⟩ : ∃ n, g.length = n := ⟨_, rfl⟩
    have hDsz : D < W.heap.size := (Array.getElem?_eq_some_iff.1 hK).1
    have c1 : W.cell? ⟨N + 1, 0, none⟩ = some (.slice A n cap) := by rw [← hn]; exact hgB.cell 0
    have HR : Hid (FRel w W N g bp D (.slice A n cap) hg 0 (.slice none 0 0)) := Lib.hid ⟨⟨none, Sl.nil _ _ _, fun b hb => by cases hb⟩, by rw [← hn]; exact hgS, fun b hb => by have := hgF b hb; omega, hF.st.body, hF.st.below, hK⟩
    have HF := Lib.hid hF
    have HN := Lib.hid hn
    have hnb : n ≤ 2147483648 := by rw [← hn]; exact hF.glen
    have hNW : N ≤ W.heap.size := by have := hF.size; omega
    clear hgB hgS hgF hF hn hK hgi hlst
    go_wp2_with fail
    go_loopw [6, 68] (fun f i wr => ∃ k : Nat, k ≤ n ∧ i = .int .i64 k ∧ Hid (FRel w wr N g bp D (.slice A n cap) hg k f) ∧ Hid (N ≤ wr.heap.size)) (fun _ i _ => n - (intOf i).toNat)
    case atStart => exact ⟨0, Nat.zero_le _, rfl, HR, Lib.hid hNW⟩
    case round =>
      obtain ⟨k, hk, rfl, HU, HSZ⟩ := hrel
      by_cases hlt : k < n
      · have hkl : k < g.length := by rw [HN.out]; exact hlt
        obtain ⟨b3, off3, cap3', _, hv3, _, _, hb3, hat3⟩ := HU.out.gs.at_ (by omega)
        injection hv3 with hv1 hv2 hv3
        subst hv1 hv3
        clear hv2
        have cs : wr.cell? ⟨b3, off3 + k, none⟩ = some (.string ⟨g[k].toArray⟩) := (hat3 k (by omega)).1.trans (by simp [hkl, encStr])
        have hne := HF.out.gne g[k] (List.getElem_mem hkl)
        have hle : g[k].length ≤ 2147483648 := Nat.le_trans (sumL_mem (List.getElem_mem hkl)) HF.out.sum
        have hone := fun W => one_any g[k] W (by omega) (cut_le _ _)
        have hf0 : k = 0 → fieldsF (g.take (k + 1)) = if blankB g[k] = true then [] else fieldOf g[k] := fun h0 => by
          subst h0
          cases g with
          | nil => simp at hkl
          | cons y r => exact fieldsF_zero y r
        have hf1 : 0 < k → fieldsF (g.take (k + 1)) = fieldsF (g.take k) ++ fieldOf g[k] := fun h0 => fieldsF_succ g k hkl h0
        clear hat3
        generalize g[k] = t at cs hne hle hone hf0 hf1
        rcases t with _ | ⟨c, r⟩
        · exact absurd rfl hne
        have hidx : ∀ h : 0 < (⟨(c :: r).toArray⟩ : ByteArray).size, (⟨(c :: r).toArray⟩ : ByteArray)[0]'h = c := fun _ => rfl
        have hbl : blankB (c :: r) = (decide (c = 32) || decide (c = 9)) := by simp [blankB]
        by_cases hskip : k = 0 ∧ blankB (c :: r) = true
        · obtain ⟨rfl, hb⟩ := hskip
          simp only [Nat.add_zero] at cs
          have hsame : fieldsF (g.take (0 + 1)) = fieldsF (g.take 0) := by rw [hf0 rfl, if_pos hb]; rfl
          have HNX := Lib.hid (HU.out.same hsame)
          have hc : c = 32 ∨ c = 9 := by
            rw [hbl] at hb
            simpa using hb
          clear hone hbl hb hf0 hf1 hne hle hsame
          rcases hc with rfl | rfl
          · go_wp2_with fail
            refine ⟨?_, by simp [intOf]; omega⟩
            first | exact ⟨1, by omega, by go_num, HNX, HSZ⟩ | ((repeat apply Exists.intro); exact ⟨⟨1, by omega, by go_num, HNX, HSZ⟩, rfl⟩)
          · go_wp2_with fail
            refine ⟨?_, by simp [intOf]; omega⟩
            first | exact ⟨1, by omega, by go_num, HNX, HSZ⟩ | ((repeat apply Exists.intro); exact ⟨⟨1, by omega, by go_num, HNX, HSZ⟩, rfl⟩)
        · have hfn : fieldsF (g.take (k + 1)) = fieldsF (g.take k) ++ fieldOf (c :: r) := by
            rcases Nat.eq_zero_or_pos k with h0 | h0
            · have hb : ¬ blankB (c :: r) = true := fun hb => hskip ⟨h0, hb⟩
              rw [hf0 h0, if_neg hb, h0]
              rfl
            · exact hf1 h0
          have hor : ¬ k = 0 ∨ (¬ c = 32 ∧ ¬ c = 9) := by
            rcases Nat.eq_zero_or_pos k with h0 | h0
            · refine .inr ?_
              have hb : ¬ blankB (c :: r) = true := fun hb => hskip ⟨h0, hb⟩
              rw [hbl] at hb
              simpa using hb
            · exact .inl (by omega)
          unfold fieldOf at hfn
          generalize oneF (c :: r) = of at hone hfn
          obtain ⟨⟨fa, fb⟩, ok⟩ := of
          simp only at hone hfn
          obtain ⟨hh0, hs0, hf0'⟩ := HU.out.fs
          obtain ⟨m, hm⟩ : ∃ m, (fieldsF (g.take k)).length = m := ⟨_, rfl⟩
          rw [hm] at hs0
          have HS0 := Lib.hid hs0
          have HF0 := Lib.hid hf0'
          obtain ⟨A0, cap0, rfl, _, _⟩ := hs0.form
          have hmk : m ≤ k := by
            rw [← hm]
            exact fieldsF_le g k
          have HM := Lib.hid hm
          have HFN := Lib.hid hfn
          clear hs0 hf0' hf0 hf1 hbl hskip hfn hne hle
          by_cases h0 : k = 0
          · subst h0
            simp only [Nat.add_zero] at cs
            have hc : ¬ c = 32 ∧ ¬ c = 9 := by
              rcases hor with h | h
              · exact absurd rfl h
              · exact h
            have h32 : ¬ (c.toNat : Int) = 32 := fun h => hc.1 (by
              have h2 : c.toNat = 32 := by omega
              exact UInt8.toNat_inj.1 h2)
            have h9 : ¬ (c.toNat : Int) = 9 := fun h => hc.2 (by
              have h2 : c.toNat = 9 := by omega
              exact UInt8.toNat_inj.1 h2)
            have hq32 : ((c.toNat : Int) == 32) = false := by simpa using h32
            have hq9 : ((c.toNat : Int) == 9) = false := by simpa using h9
            clear h32 h9 hc hor
            cases ok with
            | false =>
              have hsm : fieldsF (g.take (0 + 1)) = fieldsF (g.take 0) := by rw [HFN.out]; simp
              have HSM := Lib.hid hsm
              clear hsm
              go_wp2_with (first
                | (go_at_call 181; refine (hone _).mono ?_; rintro e w2 ⟨rfl, hb2⟩; have HB2 := Lib.hid hb2; clear hone hb2)
                | fail)
              have HUN : Hid (FRel w (w2.alloc (.cells #[.string ⟨fa.toArray⟩, .string ⟨fb.toArray⟩] 242)) N g bp D (.slice (some ⟨b3, off3, none⟩) n cap) hg (0 + 1) (.slice A0 m cap0)) := Lib.hid ((HU.out.later HSZ.out (below_then HB2.out (below_alloc1 _ _))).same HSM.out)
              have HSN : Hid (N ≤ (w2.alloc (.cells #[.string ⟨fa.toArray⟩, .string ⟨fb.toArray⟩] 242)).heap.size) := Lib.hid (by have h1 := HB2.out.size; have h2 := HSZ.out; rw [World.size_alloc]; omega)
              refine ⟨?_, by simp [intOf]; omega⟩
              first | exact ⟨0 + 1, by omega, by go_num, HUN, HSN⟩ | ((repeat apply Exists.intro); exact ⟨⟨0 + 1, by omega, by go_num, HUN, HSN⟩, rfl⟩)
            | true =>
              go_wp2_with (first
                | (go_at_call 181; refine (hone _).mono ?_; rintro e w2 ⟨rfl, hb2⟩; have HB2 := Lib.hid hb2; have HS2 : Hid (Sl w2 242 2 (.slice A0 m cap0) hh0 m (flatG encF (fieldsF (g.take 0)))) := Lib.hid (HS0.out.keep (fun b hb => hb2.block b (HS0.out.lt b hb))); clear hone hb2)
                | (at_builtin; refine wpList_append_slX rfl _ _ 203 rfl Tryz.underlying203 hj hj0 hj1 hj2 rfl (by decide) (HS2.out.alloc _) rfl (w2.heap.size + 1) (by simp) 1 1 rfl rfl ?_ ?_ ?_ ?_)
                | fail)
              any_goals (first | (simp [Value.oneCell']; done) | (unfold maxLen; omega) | omega | rfl)
              · intro v2 h2 w5 hs5 hc5 ho5
                obtain ⟨A5, cap5, rfl, _, _⟩ := hs5.form
                have HUN : Hid (FRel w w5 N g bp D (.slice (some ⟨b3, off3, none⟩) n cap) hg (0 + 1) (.slice A5 (m + 1) cap5)) := Lib.hid ((HU.out.later HSZ.out (below_then HB2.out (below_alloc1 _ _))).more (x := (fa, fb)) (by have h1 := HB2.out.size; have h2 := HSZ.out; rw [World.size_alloc]; omega) (by rw [HFN.out]; simp) (by rw [HM.out]; exact HS2.out.alloc _) HF0.out (by rw [HM.out]; exact hs5) hc5 (by rw [World.size_alloc]; exact ho5))
                have HSN : Hid (N ≤ w5.heap.size) := Lib.hid (by have h1 := HB2.out.size; have h2 := HSZ.out; have h3 := hc5.size; rw [World.size_alloc] at h3; omega)
                clear hs5 hc5 ho5
                go_wp2_with fail
                refine ⟨?_, by simp [intOf]; omega⟩
                first | exact ⟨0 + 1, by omega, by go_num, HUN, HSN⟩ | ((repeat apply Exists.intro); exact ⟨⟨0 + 1, by omega, by go_num, HUN, HSN⟩, rfl⟩)
          · have hkz : ((k : Int) == 0) = false := by simpa using h0
            clear hor
            cases ok with
            | false =>
              have hsm : fieldsF (g.take (k + 1)) = fieldsF (g.take k) := by rw [HFN.out]; simp
              have HSM := Lib.hid hsm
              clear hsm
              go_wp2_with (first
                | (go_at_call 181; refine (hone _).mono ?_; rintro e w2 ⟨rfl, hb2⟩; have HB2 := Lib.hid hb2; clear hone hb2)
                | fail)
              have HUN : Hid (FRel w (w2.alloc (.cells #[.string ⟨fa.toArray⟩, .string ⟨fb.toArray⟩] 242)) N g bp D (.slice (some ⟨b3, off3, none⟩) n cap) hg (k + 1) (.slice A0 m cap0)) := Lib.hid ((HU.out.later HSZ.out (below_then HB2.out (below_alloc1 _ _))).same HSM.out)
              have HSN : Hid (N ≤ (w2.alloc (.cells #[.string ⟨fa.toArray⟩, .string ⟨fb.toArray⟩] 242)).heap.size) := Lib.hid (by have h1 := HB2.out.size; have h2 := HSZ.out; rw [World.size_alloc]; omega)
              refine ⟨?_, by simp [intOf]; omega⟩
              first | exact ⟨k + 1, by omega, by go_num, HUN, HSN⟩ | ((repeat apply Exists.intro); exact ⟨⟨k + 1, by omega, by go_num, HUN, HSN⟩, rfl⟩)
            | true =>
              go_wp2_with (first
                | (go_at_call 181; refine (hone _).mono ?_; rintro e w2 ⟨rfl, hb2⟩; have HB2 := Lib.hid hb2; have HS2 : Hid (Sl w2 242 2 (.slice A0 m cap0) hh0 m (flatG encF (fieldsF (g.take k)))) := Lib.hid (HS0.out.keep (fun b hb => hb2.block b (HS0.out.lt b hb))); clear hone hb2)
                | (at_builtin; refine wpList_append_slX rfl _ _ 203 rfl Tryz.underlying203 hj hj0 hj1 hj2 rfl (by decide) (HS2.out.alloc _) rfl (w2.heap.size + 1) (by simp) 1 1 rfl rfl ?_ ?_ ?_ ?_)
                | fail)
              any_goals (first | (simp [Value.oneCell']; done) | (unfold maxLen; omega) | omega | rfl)
              · intro v2 h2 w5 hs5 hc5 ho5
                obtain ⟨A5, cap5, rfl, _, _⟩ := hs5.form
                have HUN : Hid (FRel w w5 N g bp D (.slice (some ⟨b3, off3, none⟩) n cap) hg (k + 1) (.slice A5 (m + 1) cap5)) := Lib.hid ((HU.out.later HSZ.out (below_then HB2.out (below_alloc1 _ _))).more (x := (fa, fb)) (by have h1 := HB2.out.size; have h2 := HSZ.out; rw [World.size_alloc]; omega) (by rw [HFN.out]; simp) (by rw [HM.out]; exact HS2.out.alloc _) HF0.out (by rw [HM.out]; exact hs5) hc5 (by rw [World.size_alloc]; exact ho5))
                have HSN : Hid (N ≤ w5.heap.size) := Lib.hid (by have h1 := HB2.out.size; have h2 := HSZ.out; have h3 := hc5.size; rw [World.size_alloc] at h3; omega)
                clear hs5 hc5 ho5
                go_wp2_with fail
                refine ⟨?_, by simp [intOf]; omega⟩
                first | exact ⟨k + 1, by omega, by go_num, HUN, HSN⟩ | ((repeat apply Exists.intro); exact ⟨⟨k + 1, by omega, by go_num, HUN, HSN⟩, rfl⟩)
      · have hkn : k = n := by omega
        subst hkn
        have hbo : Blk wr N 3 #[.int .i64 bp] := HU.out.body
        have b0 : wr.cell? ⟨N, 0, none⟩ = some (.int .i64 bp) := hbo.cell 0
        have fz : wr.frozen? ⟨N, 0, none⟩ = false := hbo.frozen 0
        clear hbo
        go_wp2_with fail
        go_still_tail 3, (by kernel_rfl)
        change wpList _ _ _ _ _ wr.drew
        go_wp2_with fail
        have hND : N ≠ D := by omega
        obtain ⟨⟨hh, q1, q2⟩, q3, q4, q5⟩ := HU.out.done hND HSZ.out (by omega)
        have q6 : ((wr.setCell ⟨N, 0, none⟩ (.int .i64 bp)).drew.putObj D (.deferred none)).cell? ⟨N, 0, none⟩ = some (.int .i64 bp) := q4
        refine ⟨by simp, .inl ⟨_, _, rfl, run_takeDeferred q5, ?_⟩⟩
        have hfl : (splitF s).1 = fieldsF (g.take k) := by rw [HF.out.fields, ← HN.out, List.take_length]
        refine ⟨.tuple #[u6, .int .i64 bp], ?_, u6, hh, ?_, ?_, ?_, ?_⟩
        · simp [results, Tryz.results132, go_sem, q6]
        · rw [HF.out.body]
        · rw [hfl]
          exact q1
        · rw [hN]
          exact q2
        · rw [hN]
          exact q3
  case stop =>
    rintro D c pre W hD hS ⟨rfl, hX⟩ hK
    obtain ⟨g, bp, hF⟩ := hX.gf hs hS
    clear hX hS
    refine wpIn_wide.2 ?_
    obtain ⟨gv, hg, hgB, hgS, hgF⟩ := hF.st.cell
    obtain ⟨A, cap, rfl, _, _⟩ := hgS.form
    obtain ⟨n, hn⟩ : ∃ n, g.length = n := ⟨_, rfl⟩
    have hDsz : D < W.heap.size := (Array.getElem?_eq_some_iff.1 hK).1
    have c1 : W.cell? ⟨N + 1, 0, none⟩ = some (.slice A n cap) := by rw [← hn]; exact hgB.cell 0
    have HR : Hid (FRel w W N g bp D (.slice A n cap) hg 0 (.slice none 0 0)) := Lib.hid ⟨⟨none, Sl.nil _ _ _, fun b hb => by cases hb⟩, by rw [← hn]; exact hgS, fun b hb => by have := hgF b hb; omega, hF.st.body, hF.st.below, hK⟩
    have HF := Lib.hid hF
    have HN := Lib.hid hn
    have hnb : n ≤ 2147483648 := by rw [← hn]; exact hF.glen
    have hNW : N ≤ W.heap.size := by have := hF.size; omega
    clear hgB hgS hgF hF hn hK hgi hlst
    go_wp2_with fail
    go_loopw [6, 68] (fun f i wr => ∃ k : Nat, k ≤ n ∧ i = .int .i64 k ∧ Hid (FRel w wr N g bp D (.slice A n cap) hg k f) ∧ Hid (N ≤ wr.heap.size)) (fun _ i _ => n - (intOf i).toNat)
    case atStart => exact ⟨0, Nat.zero_le _, rfl, HR, Lib.hid hNW⟩
    case round =>
      obtain ⟨k, hk, rfl, HU, HSZ⟩ := hrel
      by_cases hlt : k < n
      · have hkl : k < g.length := by rw [HN.out]; exact hlt
        obtain ⟨b3, off3, cap3', _, hv3, _, _, hb3, hat3⟩ := HU.out.gs.at_ (by omega)
        injection hv3 with hv1 hv2 hv3
        subst hv1 hv3
        clear hv2
        have cs : wr.cell? ⟨b3, off3 + k, none⟩ = some (.string ⟨g[k].toArray⟩) := (hat3 k (by omega)).1.trans (by simp [hkl, encStr])
        have hne := HF.out.gne g[k] (List.getElem_mem hkl)
        have hle : g[k].length ≤ 2147483648 := Nat.le_trans (sumL_mem (List.getElem_mem hkl)) HF.out.sum
        have hone := fun W => one_any g[k] W (by omega) (cut_le _ _)
        have hf0 : k = 0 → fieldsF (g.take (k + 1)) = if blankB g[k] = true then [] else fieldOf g[k] := fun h0 => by
          subst h0
          cases g with
          | nil => simp at hkl
          | cons y r => exact fieldsF_zero y r
        have hf1 : 0 < k → fieldsF (g.take (k + 1)) = fieldsF (g.take k) ++ fieldOf g[k] := fun h0 => fieldsF_succ g k hkl h0
        clear hat3
        generalize g[k] = t at cs hne hle hone hf0 hf1
        rcases t with _ | ⟨c, r⟩
        · exact absurd rfl hne
        have hidx : ∀ h : 0 < (⟨(c :: r).toArray⟩ : ByteArray).size, (⟨(c :: r).toArray⟩ : ByteArray)[0]'h = c := fun _ => rfl
        have hbl : blankB (c :: r) = (decide (c = 32) || decide (c = 9)) := by simp [blankB]
        by_cases hskip : k = 0 ∧ blankB (c :: r) = true
        · obtain ⟨rfl, hb⟩ := hskip
          simp only [Nat.add_zero] at cs
          have hsame : fieldsF (g.take (0 + 1)) = fieldsF (g.take 0) := by rw [hf0 rfl, if_pos hb]; rfl
          have HNX := Lib.hid (HU.out.same hsame)
          have hc : c = 32 ∨ c = 9 := by
            rw [hbl] at hb
            simpa using hb
          clear hone hbl hb hf0 hf1 hne hle hsame
          rcases hc with rfl | rfl
          · go_wp2_with fail
            refine ⟨?_, by simp [intOf]; omega⟩
            first | exact ⟨1, by omega, by go_num, HNX, HSZ⟩ | ((repeat apply Exists.intro); exact ⟨⟨1, by omega, by go_num, HNX, HSZ⟩, rfl⟩)
          · go_wp2_with fail
            refine ⟨?_, by simp [intOf]; omega⟩
            first | exact ⟨1, by omega, by go_num, HNX, HSZ⟩ | ((repeat apply Exists.intro); exact ⟨⟨1, by omega, by go_num, HNX, HSZ⟩, rfl⟩)
        · have hfn : fieldsF (g.take (k + 1)) = fieldsF (g.take k) ++ fieldOf (c :: r) := by
            rcases Nat.eq_zero_or_pos k with h0 | h0
            · have hb : ¬ blankB (c :: r) = true := fun hb => hskip ⟨h0, hb⟩
              rw [hf0 h0, if_neg hb, h0]
              rfl
            · exact hf1 h0
          have hor : ¬ k = 0 ∨ (¬ c = 32 ∧ ¬ c = 9) := by
            rcases Nat.eq_zero_or_pos k with h0 | h0
            · refine .inr ?_
              have hb : ¬ blankB (c :: r) = true := fun hb => hskip ⟨h0, hb⟩
              rw [hbl] at hb
              simpa using hb
            · exact .inl (by omega)
          unfold fieldOf at hfn
          generalize oneF (c :: r) = of at hone hfn
          obtain ⟨⟨fa, fb⟩, ok⟩ := of
          simp only at hone hfn
          obtain ⟨hh0, hs0, hf0'⟩ := HU.out.fs
          obtain ⟨m, hm⟩ : ∃ m, (fieldsF (g.take k)).length = m := ⟨_, rfl⟩
          rw [hm] at hs0
          have HS0 := Lib.hid hs0
          have HF0 := Lib.hid hf0'
          obtain ⟨A0, cap0, rfl, _, _⟩ := hs0.form
          have hmk : m ≤ k := by
            rw [← hm]
            exact fieldsF_le g k
          have HM := Lib.hid hm
          have HFN := Lib.hid hfn
          clear hs0 hf0' hf0 hf1 hbl hskip hfn hne hle
          by_cases h0 : k = 0
          · subst h0
            simp only [Nat.add_zero] at cs
            have hc : ¬ c = 32 ∧ ¬ c = 9 := by
              rcases hor with h | h
              · exact absurd rfl h
              · exact h
            have h32 : ¬ (c.toNat : Int) = 32 := fun h => hc.1 (by
              have h2 : c.toNat = 32 := by omega
              exact UInt8.toNat_inj.1 h2)
            have h9 : ¬ (c.toNat : Int) = 9 := fun h => hc.2 (by
              have h2 : c.toNat = 9 := by omega
              exact UInt8.toNat_inj.1 h2)
            have hq32 : ((c.toNat : Int) == 32) = false := by simpa using h32
            have hq9 : ((c.toNat : Int) == 9) = false := by simpa using h9
            clear h32 h9 hc hor
            cases ok with
            | false =>
              have hsm : fieldsF (g.take (0 + 1)) = fieldsF (g.take 0) := by rw [HFN.out]; simp
              have HSM := Lib.hid hsm
              clear hsm
              go_wp2_with (first
                | (go_at_call 181; refine (hone _).mono ?_; rintro e w2 ⟨rfl, hb2⟩; have HB2 := Lib.hid hb2; clear hone hb2)
                | fail)
              have HUN : Hid (FRel w (w2.alloc (.cells #[.string ⟨fa.toArray⟩, .string ⟨fb.toArray⟩] 242)) N g bp D (.slice (some ⟨b3, off3, none⟩) n cap) hg (0 + 1) (.slice A0 m cap0)) := Lib.hid ((HU.out.later HSZ.out (below_then HB2.out (below_alloc1 _ _))).same HSM.out)
              have HSN : Hid (N ≤ (w2.alloc (.cells #[.string ⟨fa.toArray⟩, .string ⟨fb.toArray⟩] 242)).heap.size) := Lib.hid (by have h1 := HB2.out.size; have h2 := HSZ.out; rw [World.size_alloc]; omega)
              refine ⟨?_, by simp [intOf]; omega⟩
              first | exact ⟨0 + 1, by omega, by go_num, HUN, HSN⟩ | ((repeat apply Exists.intro); exact ⟨⟨0 + 1, by omega, by go_num, HUN, HSN⟩, rfl⟩)
            | true =>
              go_wp2_with (first
                | (go_at_call 181; refine (hone _).mono ?_; rintro e w2 ⟨rfl, hb2⟩; have HB2 := Lib.hid hb2; have HS2 : Hid (Sl w2 242 2 (.slice A0 m cap0) hh0 m (flatG encF (fieldsF (g.take 0)))) := Lib.hid (HS0.out.keep (fun b hb => hb2.block b (HS0.out.lt b hb))); clear hone hb2)
                | (at_builtin; refine wpList_append_slX rfl _ _ 203 rfl Tryz.underlying203 hj hj0 hj1 hj2 rfl (by decide) (HS2.out.alloc _) rfl (w2.heap.size + 1) (by simp) 1 1 rfl rfl ?_ ?_ ?_ ?_)
                | fail)
              any_goals (first | (simp [Value.oneCell']; done) | (unfold maxLen; omega) | omega | rfl)
              · intro v2 h2 w5 hs5 hc5 ho5
                obtain ⟨A5, cap5, rfl, _, _⟩ := hs5.form
                have HUN : Hid (FRel w w5 N g bp D (.slice (some ⟨b3, off3, none⟩) n cap) hg (0 + 1) (.slice A5 (m + 1) cap5)) := Lib.hid ((HU.out.later HSZ.out (below_then HB2.out (below_alloc1 _ _))).more (x := (fa, fb)) (by have h1 := HB2.out.size; have h2 := HSZ.out; rw [World.size_alloc]; omega) (by rw [HFN.out]; simp) (by rw [HM.out]; exact HS2.out.alloc _) HF0.out (by rw [HM.out]; exact hs5) hc5 (by rw [World.size_alloc]; exact ho5))
                have HSN : Hid (N ≤ w5.heap.size) := Lib.hid (by have h1 := HB2.out.size; have h2 := HSZ.out; have h3 := hc5.size; rw [World.size_alloc] at h3; omega)
                clear hs5 hc5 ho5
                go_wp2_with fail
                refine ⟨?_, by simp [intOf]; omega⟩
                first | exact ⟨0 + 1, by omega, by go_num, HUN, HSN⟩ | ((repeat apply Exists.intro); exact ⟨⟨0 + 1, by omega, by go_num, HUN, HSN⟩, rfl⟩)
          · have hkz : ((k : Int) == 0) = false := by simpa using h0
            clear hor
            cases ok with
            | false =>
              have hsm : fieldsF (g.take (k + 1)) = fieldsF (g.take k) := by rw [HFN.out]; simp
              have HSM := Lib.hid hsm
              clear hsm
              go_wp2_with (first
                | (go_at_call 181; refine (hone _).mono ?_; rintro e w2 ⟨rfl, hb2⟩; have HB2 := Lib.hid hb2; clear hone hb2)
                | fail)
              have HUN : Hid (FRel w (w2.alloc (.cells #[.string ⟨fa.toArray⟩, .string ⟨fb.toArray⟩] 242)) N g bp D (.slice (some ⟨b3, off3, none⟩) n cap) hg (k + 1) (.slice A0 m cap0)) := Lib.hid ((HU.out.later HSZ.out (below_then HB2.out (below_alloc1 _ _))).same HSM.out)
              have HSN : Hid (N ≤ (w2.alloc (.cells #[.string ⟨fa.toArray⟩, .string ⟨fb.toArray⟩] 242)).heap.size) := Lib.hid (by have h1 := HB2.out.size; have h2 := HSZ.out; rw [World.size_alloc]; omega)
              refine ⟨?_, by simp [intOf]; omega⟩
              first | exact ⟨k + 1, by omega, by go_num, HUN, HSN⟩ | ((repeat apply Exists.intro); exact ⟨⟨k + 1, by omega, by go_num, HUN, HSN⟩, rfl⟩)
            | true =>
              go_wp2_with (first
                | (go_at_call 181; refine (hone _).mono ?_; rintro e w2 ⟨rfl, hb2⟩; have HB2 := Lib.hid hb2; have HS2 : Hid (Sl w2 242 2 (.slice A0 m cap0) hh0 m (flatG encF (fieldsF (g.take k)))) := Lib.hid (HS0.out.keep (fun b hb => hb2.block b (HS0.out.lt b hb))); clear hone hb2)
                | (at_builtin; refine wpList_append_slX rfl _ _ 203 rfl Tryz.underlying203 hj hj0 hj1 hj2 rfl (by decide) (HS2.out.alloc _) rfl (w2.heap.size + 1) (by simp) 1 1 rfl rfl ?_ ?_ ?_ ?_)
                | fail)
              any_goals (first | (simp [Value.oneCell']; done) | (unfold maxLen; omega) | omega | rfl)
              · intro v2 h2 w5 hs5 hc5 ho5
                obtain ⟨A5, cap5, rfl, _, _⟩ := hs5.form
                have HUN : Hid (FRel w w5 N g bp D (.slice (some ⟨b3, off3, none⟩) n cap) hg (k + 1) (.slice A5 (m + 1) cap5)) := Lib.hid ((HU.out.later HSZ.out (below_then HB2.out (below_alloc1 _ _))).more (x := (fa, fb)) (by have h1 := HB2.out.size; have h2 := HSZ.out; rw [World.size_alloc]; omega) (by rw [HFN.out]; simp) (by rw [HM.out]; exact HS2.out.alloc _) HF0.out (by rw [HM.out]; exact hs5) hc5 (by rw [World.size_alloc]; exact ho5))
                have HSN : Hid (N ≤ w5.heap.size) := Lib.hid (by have h1 := HB2.out.size; have h2 := HSZ.out; have h3 := hc5.size; rw [World.size_alloc] at h3; omega)
                clear hs5 hc5 ho5
                go_wp2_with fail
                refine ⟨?_, by simp [intOf]; omega⟩
                first | exact ⟨k + 1, by omega, by go_num, HUN, HSN⟩ | ((repeat apply Exists.intro); exact ⟨⟨k + 1, by omega, by go_num, HUN, HSN⟩, rfl⟩)
      · have hkn : k = n := by omega
        subst hkn
        have hbo : Blk wr N 3 #[.int .i64 bp] := HU.out.body
        have b0 : wr.cell? ⟨N, 0, none⟩ = some (.int .i64 bp) := hbo.cell 0
        have fz : wr.frozen? ⟨N, 0, none⟩ = false := hbo.frozen 0
        clear hbo
        go_wp2_with fail
        go_still_tail 3, (by kernel_rfl)
        change wpList _ _ _ _ _ wr.drew
        go_wp2_with fail
        have hND : N ≠ D := by omega
        obtain ⟨⟨hh, q1, q2⟩, q3, q4, q5⟩ := HU.out.done hND HSZ.out (by omega)
        have q6 : ((wr.setCell ⟨N, 0, none⟩ (.int .i64 bp)).drew.putObj D (.deferred none)).cell? ⟨N, 0, none⟩ = some (.int .i64 bp) := q4
        refine ⟨by simp, .inl ⟨_, _, rfl, run_takeDeferred q5, ?_⟩⟩
        have hfl : (splitF s).1 = fieldsF (g.take k) := by rw [HF.out.fields, ← HN.out, List.take_length]
        refine ⟨.tuple #[u6, .int .i64 bp], ?_, u6, hh, ?_, ?_, ?_, ?_⟩
        · simp [results, Tryz.results132, go_sem, q6]
        · rw [HF.out.body]
        · rw [hfl]
          exact q1
        · rw [hN]
          exact q2
        · rw [hN]
          exact q3

end Go.Proofs.YtgkfknbhkonfdaaGreatDoor

namespace Go.Proofs.YtgkfknbhkonfdaaGreatDoor
open Go.Shelf Go.RowKit
attribute [local go_sem ↓] Go.wp_at_zero Go.wp_at_succ

theorem gatherF_sum : ∀ (L : List (List UInt8 × Nat)) (g : List (List UInt8)) (b : Nat), sumL (gatherF L g b).1 ≤ sumL g + sumP L
  | [], g, b => by simp [gatherF, sumP]
  | (t, p) :: r, g, b => by
    have h5 : sumP ((t, p) :: r) = t.length + sumP r := by simp [sumP]
    rw [gatherF]
    split
    · show sumL g ≤ _
      omega
    · have h1 := gatherF_sum r (addLine g t) b
      rw [addLine_sum] at h1
      omega
theorem split_names (s : List UInt8) : ∀ f ∈ (splitF s).1, f.1.length ≤ s.length := by
  intro f hf
  have h1 := gatherF_sum (linesF s.length s 0) [] s.length
  have h2 := linesF_sum s.length s 0
  have h0 : sumL ([] : List (List UInt8)) = 0 := by simp [sumL]
  have hf : f ∈ fieldsF (gatherF (linesF s.length s 0) [] s.length).1 := hf
  generalize (gatherF (linesF s.length s 0) [] s.length).1 = g at hf h1
  have h3 : ∀ l : List (List UInt8), f ∈ fieldsG l → ∃ t ∈ l, (oneF t).1 = f := by
    intro l hl
    obtain ⟨t, ht, he⟩ := List.mem_filterMap.1 hl
    refine ⟨t, ht, ?_⟩
    split at he
    · exact Option.some.inj he
    · cases he
  have h4 : ∃ t ∈ g, (oneF t).1 = f := by
    cases g with
    | nil => cases hf
    | cons x r =>
      obtain ⟨t, ht, he⟩ := h3 (if blankB x = true then r else x :: r) hf
      refine ⟨t, ?_, he⟩
      split at ht
      · exact List.mem_cons_of_mem _ ht
      · exact ht
  obtain ⟨t, ht, rfl⟩ := h4
  have h6 := sumL_mem ht
  have h7 := (cut_le t [58]).1
  show (Lib.cut t [58]).1.length ≤ _
  omega

theorem head_any (t name : List UInt8) (ht : t.length ≤ 2147483648) (hn : name.length ≤ 4294967296) (w : World) :
    Calls Tryz.prog 131 #[.string ⟨t.toArray⟩, .string ⟨name.toArray⟩] w fun e w' => e = .returned (.string ⟨(headF t name).toArray⟩) ∧ Below w.heap.size w w' := by
  have hsp := split_any t ht w
  have hnm := split_names t
  unfold headF
  generalize (splitF t).2 = bp at hsp
  generalize (splitF t).1 = l at hsp hnm ⊢
  have hfi := fun W v (hr : RdS W [] 2 v l.length (flatG encF l)) => first_any W v [] l hr name hn (fun f hf => by have := hnm f hf; omega)
  generalize firstF l name = ans at hfi
  obtain ⟨a1, a2⟩ := ans
  have HFI := Lib.hid hfi
  clear hnm hfi
  go_enter Tryz.func131, Tryz.ntmps131
  go_wp2_with (first
    | (go_at_call 132; refine hsp.mono ?_; rintro e w1 ⟨v, hh, rfl, hs1, _, hb1⟩; have hfi := HFI.out w1 v (hs1.reads [] (by simp)); have HB1 := Lib.hid hb1; clear hsp hs1 hb1)
    | (go_at_call 133; refine hfi.mono ?_; rintro e w2 ⟨rfl, hb2⟩; have HB2 := Lib.hid (below_then HB1.out hb2); clear hfi hb2)
    | fail)
  go_ret
  exact ⟨rfl, HB2.out⟩

def irt : List UInt8 := [105, 110, 45, 114, 101, 112, 108, 121, 45, 116, 111]
def mid : List UInt8 := [109, 101, 115, 115, 97, 103, 101, 45, 105, 100]
theorem find_hit {α : Type} (p : α → Bool) : ∀ (l : List α) (k : Nat) (hk : k < l.length), p l[k] = true → (∀ j (hj : j < l.length), j < k → p l[j] = false) → l.find? p = some l[k]
  | x :: r, 0, _, h, _ => by
    have h : p x = true := h
    simp [h]
  | x :: r, k + 1, hk, h, hj => by
    have h0 : p x = false := hj 0 (by simp) (by omega)
    rw [List.find?_cons_of_neg (by simp [h0])]
    exact find_hit p r k (by simpa using hk) (by simpa using h) (fun j hj1 hj2 => hj (j + 1) (by simpa using hj1) (by omega))
theorem find_miss {α : Type} (p : α → Bool) (l : List α) (h : ∀ j (hj : j < l.length), p l[j] = false) : l.find? p = none := by
  rw [List.find?_eq_none]
  intro x hx
  obtain ⟨j, hj, rfl⟩ := List.getElem_of_mem hx
  simp [h j hj]

set_option maxRecDepth 100000 in
set_option maxHeartbeats 1000000 in
theorem thread_any (w : World) (g : Nat) (q : Lies) (x : Acc) (h : StoreAt w g q x) (hn : x.mails.length ≤ 1099511627776) (hm : ∀ m ∈ x.mails, m.text.length ≤ 2147483648) (t : List UInt8) (ht : t.length ≤ 2147483648) :
    Calls Tryz.prog 67 #[.pointer (some ⟨g, 0, none⟩), .string ⟨t.toArray⟩] w fun e w' => e = .returned (.int .i64 (threadP headF x t)) ∧ Below w.heap.size w w' := by
  have hd := fun W => head_any t irt ht (by decide) W
  obtain ⟨ans, hans⟩ : ∃ ans, threadP headF x t = ans := ⟨_, rfl⟩
  rw [hans]
  have hans2 : ans = if headF t irt = [] then 0 else match x.mails.find? (fun m => decide (headF m.text mid = headF t irt)) with
    | some m => m.thread
    | none => 0 := by
    rw [← hans]
    rfl
  obtain ⟨to_, hto⟩ : ∃ to_, headF t irt = to_ := ⟨_, rfl⟩
  rw [hto] at hans2
  have hd : ∀ W, Calls Tryz.prog 131 #[.string ⟨t.toArray⟩, .string ⟨#[105, 110, 45, 114, 101, 112, 108, 121, 45, 116, 111]⟩] W fun e w' => e = .returned (.string ⟨to_.toArray⟩) ∧ Below W.heap.size W w' := fun W => by
    have := hd W
    rw [hto] at this
    exact this
  have c11 := h.cell11
  have hgl := h.blk.lt
  have HA := Lib.hid hans2
  have H := Lib.hid h
  have HM := Lib.hid hm
  obtain ⟨A, cap, hvm, _, _⟩ := h.mails.form
  rw [hvm] at c11
  obtain ⟨n, hnn⟩ : ∃ n, x.mails.length = n := ⟨_, rfl⟩
  rw [hnn] at c11 hn
  have HN := Lib.hid hnn
  have HVM := Lib.hid hvm
  clear hans hans2 hto h hm hnn hvm
  cases to_ with
  | nil =>
    rw [if_pos rfl] at HA
    go_enter Tryz.func67, Tryz.ntmps67
    go_wp2_with (first
      | (go_at_call 131; refine (hd _).mono ?_; rintro e w1 ⟨rfl, hb1⟩; clear hd)
      | fail)
    go_ret
    exact ⟨by rw [HA.out]; rfl, hb1⟩
  | cons c r =>
    rw [if_neg (by simp)] at HA
    go_enter Tryz.func67, Tryz.ntmps67
    go_wp2_with (first
      | (go_at_call 131; refine (hd _).mono ?_; rintro e w1 ⟨rfl, hb1⟩; have k11 := (hb1.cell (p := ⟨g, 11, none⟩) hgl).trans c11; have HB1 := Lib.hid hb1; clear hd hb1)
      | fail)
    go_loopw [19] (fun i wr => ∃ k : Nat, k ≤ n ∧ i = .int .i64 k ∧ Hid (Below w.heap.size w wr) ∧ Hid (∀ j (hj : j < x.mails.length), j < k → decide (headF x.mails[j].text mid = c :: r) = false)) (fun i _ => n - (intOf i).toNat)
    case atStart => exact ⟨0, Nat.zero_le _, rfl, HB1, Lib.hid (fun j hj h => by omega)⟩
    case round =>
      obtain ⟨k, hk, rfl, HB, HP⟩ := hrel
      by_cases hlt : k < n
      · have hkm : k < x.mails.length := by rw [HN.out]; exact hlt
        have hk2 : k < q.ms.length := by rw [H.out.msLen]; exact hkm
        obtain ⟨b, off, cap2, hv2, _, _, _, hbl, hat⟩ := H.out.mailAt k hkm hk2
        rw [HVM.out, HN.out] at hv2
        injection hv2 with hv3 hv4 hv5
        subst hv3 hv5
        clear hv4
        have hp := H.out.msAt k hkm hk2
        have hml := HM.out _ (List.getElem_mem hkm)
        have hhit := find_hit (fun m : MailP => decide (headF m.text mid = c :: r)) x.mails k hkm
        have hsnoc : decide (headF x.mails[k].text mid = c :: r) = false → ∀ j (hj : j < x.mails.length), j < k + 1 → decide (headF x.mails[j].text mid = c :: r) = false := fun h0 j hj hjk => by
          by_cases hjk2 : j = k
          · subst hjk2
            exact h0
          · exact HP.out j hj (by omega)
        rw [← hp] at hml hhit hsnoc
        have l0 := (HB.out.cell (p := ⟨b, off + k * 8, none⟩) hbl).trans (hat 0 (by omega)).1
        have l1 := (HB.out.cell (p := ⟨b, off + k * 8 + 1, none⟩) hbl).trans (hat 1 (by omega)).1
        have l2 := (HB.out.cell (p := ⟨b, off + k * 8 + 2, none⟩) hbl).trans (hat 2 (by omega)).1
        have l3 := (HB.out.cell (p := ⟨b, off + k * 8 + 3, none⟩) hbl).trans (hat 3 (by omega)).1
        have l4 := (HB.out.cell (p := ⟨b, off + k * 8 + 4, none⟩) hbl).trans (hat 4 (by omega)).1
        have l5 := (HB.out.cell (p := ⟨b, off + k * 8 + 5, none⟩) hbl).trans (hat 5 (by omega)).1
        have l6 := (HB.out.cell (p := ⟨b, off + k * 8 + 6, none⟩) hbl).trans (hat 6 (by omega)).1
        have l7 := (HB.out.cell (p := ⟨b, off + k * 8 + 7, none⟩) hbl).trans (hat 7 (by omega)).1
        have hpt := H.out.parts _ (List.getElem_mem hk2)
        obtain ⟨m, hmm⟩ : ∃ m, m = q.ms[k] := ⟨_, rfl⟩
        rw [← hmm] at l0 l1 l2 l3 l4 l5 l6 l7 hml hhit hsnoc hpt hp
        obtain ⟨⟨id, th, tx, ta, ks, me, mo, bo⟩, kv, mv⟩ := m
        obtain ⟨A1, p1, e1, _, _⟩ := hpt.keys.form
        obtain ⟨A2, p2, e2, _, _⟩ := hpt.mem.form
        have hkv : kv = .slice A1 ks.length p1 := e1
        have hmv : mv = .slice A2 me.length p2 := e2
        clear hpt e1 e2
        subst hkv hmv
        have d0 : wr.cell? ⟨b, off + k * 8, none⟩ = some (.int .i64 id) := l0
        have d1 : wr.cell? ⟨b, off + k * 8 + 1, none⟩ = some (.int .i64 th) := l1
        have d2 : wr.cell? ⟨b, off + k * 8 + 2, none⟩ = some (.string ⟨tx.toArray⟩) := l2
        have d3 : wr.cell? ⟨b, off + k * 8 + 3, none⟩ = some (.int .i64 ta) := l3
        have d4 : wr.cell? ⟨b, off + k * 8 + 4, none⟩ = some (.slice A1 ks.length p1) := l4
        have d5 : wr.cell? ⟨b, off + k * 8 + 5, none⟩ = some (.slice A2 me.length p2) := l5
        have d6 : wr.cell? ⟨b, off + k * 8 + 6, none⟩ = some (.int .i64 mo) := l6
        have d7 : wr.cell? ⟨b, off + k * 8 + 7, none⟩ = some (.int .i64 bo) := l7
        have hd2 := fun W => head_any tx mid hml (by decide) W
        have hd2 : ∀ W, Calls Tryz.prog 131 #[.string ⟨tx.toArray⟩, .string ⟨#[109, 101, 115, 115, 97, 103, 101, 45, 105, 100]⟩] W fun e w' => e = .returned (.string ⟨(headF tx mid).toArray⟩) ∧ Below W.heap.size W w' := hd2
        simp only at hhit hsnoc
        generalize headF tx mid = hh at hd2 hhit hsnoc
        by_cases he : hh = c :: r
        · have hf := hhit (by simp [he]) HP.out
          have hth : ans = th := by
            rw [HA.out, hf]
          clear hat hhit hsnoc l0 l1 l2 l3 l4 l5 l6 l7 hp hml hf hmm
          subst he
          go_wp2_with (first
            | (go_at_call 131; refine (hd2 _).mono ?_; rintro e w3 ⟨rfl, hb3⟩; have z1 : w3.cell? ⟨wr.heap.size, 1, none⟩ = some (.int .i64 th) := ((Blk.new wr _ _).below hb3 (by simp)).cell 1; have HB3 := Lib.hid (below_then HB.out (below_then (below_alloc1 wr _) hb3)); clear hd2 hb3)
            | fail)
          go_ret
          exact ⟨by rw [hth]; rfl, HB3.out⟩
        · have hq : (hh == c :: r) = false := by simpa using he
          have HP2 := Lib.hid (hsnoc (by simpa using he))
          clear hat hhit hsnoc l0 l1 l2 l3 l4 l5 l6 l7 hp hml hmm
          go_wp2_with (first
            | (go_at_call 131; refine (hd2 _).mono ?_; rintro e w3 ⟨rfl, hb3⟩; have z1 : w3.cell? ⟨wr.heap.size, 1, none⟩ = some (.int .i64 th) := ((Blk.new wr _ _).below hb3 (by simp)).cell 1; have HB3 := Lib.hid (below_then HB.out (below_then (below_alloc1 wr _) hb3)); clear hd2 hb3)
            | fail)
          refine ⟨?_, by simp [intOf]; omega⟩
          first | exact ⟨k + 1, by omega, by go_num, HB3, HP2⟩ | ((repeat apply Exists.intro); exact ⟨⟨k + 1, by omega, by go_num, HB3, HP2⟩, rfl⟩)
      · have hkn : k = n := by omega
        subst hkn
        have hf := find_miss (fun m : MailP => decide (headF m.text mid = c :: r)) x.mails (fun j hj => HP.out j hj (by rw [← HN.out]; exact hj))
        rw [hf] at HA
        go_wp2_with fail
        go_ret
        exact ⟨by rw [HA.out]; rfl, HB.out⟩

end Go.Proofs.YtgkfknbhkonfdaaGreatDoor

namespace Go.Proofs.YtgkfknbhkonfdaaGreatDoor
open Go.Shelf Go.RowKit

/-- A call of a Go function, at a step of a region that draws. -/
theorem step_call {P : Program} {ops : Array Oper} {o : Oper} {a : Act} {w : World} {K : Act → World → Prop} {Q : Exit → Act → World → Prop} {E : Prop} (hgd : o.guard = none) {f : FuncId} {xs : Array Operand} {ts : Array TypeId}
    (ho : o.op = .call { callee := .value (.func f), args := xs, argTypes := ts }) (eg : ∀ args W, (callFunc f args).run P W = .ok (.enter f args) W) {vals : Array Value} (hv : xs.map a.eval = vals) {R : Ending → World → Prop} (hc : Calls P f vals w R)
    (hk : ∀ e w', R e w' → ∃ v, e = .returned v ∧ K (a.put o.dst v) w') : if Region.wanted o (yielded ops a.tmps) = true then Oper.wp P o a w K Q else E := by
  have hw : Region.wanted o (yielded ops a.tmps) = true := by simp [Region.wanted, hgd]
  rw [if_pos hw]
  have hrun : (execOp a.eval o).run P w = .ok (.enter f vals) w := by
    unfold execOp
    simp only [ho, resolve, Act.eval] at hv ⊢
    simp [Deferred.ofValue, invoke, go_sem, hv, eg]
  unfold Oper.wp
  rw [hrun, Oper.upon_enter]
  refine hc.mono ?_
  intro e w' hR
  obtain ⟨v, rfl, hk'⟩ := hk e w' hR
  exact hk'

section
variable {w W W2 : World} {g : Nat} {q : Lies} {x x1 : Acc}
/-- A slice of the call's own abides what turns the account. -/
theorem Sl.fresh {e : TypeId} {size n : Nat} {v : Value} {h : Option Nat} {xs : List Value} (hs : Sl W e size v h n xs) (hf : ∀ b, h = some b → w.heap.size ≤ b) (hw : StoreAt w g q x) (hc : Chg (q.own g) W W2) : Sl W2 e size v h n xs :=
  hs.chg hc fun b hb hm => by
    have h1 := hw.lt b hm
    have h2 := hf b hb
    omega
theorem Blk.fresh {b : Nat} {t : TypeId} {cs : Array Value} (hB : Blk W b t cs) (hf : w.heap.size ≤ b) (hw : StoreAt w g q x) (hc : Chg (q.own g) W W2) : Blk W2 b t cs :=
  hB.chg hc fun hm => by
    have h1 := hw.lt b hm
    omega
theorem Turned.then_below (h : Turned w W g q x1 q) (hb : Below W.heap.size W W2) : Turned w W2 g q x1 q := h.trans (Turned.of_below h.at_ hb)
end

theorem StoreAt.setOctets {w : World} {g : Nat} {q : Lies} {x : Acc} (h : StoreAt w g q x) (v : Int) : Turned w (w.setCell ⟨g, 15, none⟩ (.int .i64 v)) g q { x with octets := v } q := h.setStruct 15 (.int .i64 v) { x with octets := v } rfl rfl rfl rfl
theorem numbers_snoc (l : List Int) (i : Int) (bs : List BoxP) : numbers (l ++ [i]) bs = (bump i (numbers l bs).1, (numbers l bs).2 ++ [(i, nextOf (numbers l bs).1 i)]) := by simp [numbers]
theorem numbers_ids : ∀ (l : List Int) (bs : List BoxP), ids (numbers l bs).1 = ids bs := by
  intro l bs
  have h : ∀ (l : List Int) (s : List BoxP × List (Int × Int)), ids (l.foldl (fun s id => (bump id s.1, s.2 ++ [(id, nextOf s.1 id)])) s).1 = ids s.1 := by
    intro l
    induction l with
    | nil => intro s; rfl
    | cons i r ih =>
      intro s
      rw [List.foldl_cons, ih]
      exact setBox_ids i (fun b => { b with next := b.next + 1 }) (fun b => rfl) _
  exact h l (bs, [])
theorem numbers_len (l : List Int) (bs : List BoxP) : (numbers l bs).1.length = bs.length := by
  have := congrArg List.length (numbers_ids l bs)
  simpa [ids] using this
theorem numbers_len2 (l : List Int) (bs : List BoxP) : (numbers l bs).2.length = l.length := by
  have h : ∀ (l : List Int) (s : List BoxP × List (Int × Int)), (l.foldl (fun s id => (bump id s.1, s.2 ++ [(id, nextOf s.1 id)])) s).2.length = s.2.length + l.length := by
    intro l
    induction l with
    | nil => intro s; simp
    | cons i r ih =>
      intro s
      rw [List.foldl_cons, ih]
      simp
      omega
  have := h l (bs, [])
  simpa [numbers] using this
/-- The next numbers stay in bounds. -/
theorem numbers_next {c : CfgP} {last : Int} {bs : List BoxP} (hc : CfgOk c) (hn : (ids bs).Nodup) (hb : ∀ b ∈ bs, BoxOk c last b) (l : List Int) (hl : l.Nodup) (hs : ∀ i ∈ l, nextOf bs i ≤ c.maxUid) (i : Int) (hi : i ∈ ids bs) :
    0 ≤ nextOf (numbers l bs).1 i ∧ nextOf (numbers l bs).1 i ≤ 4294967296 := by
  rw [numbers_eq l bs hn hl]
  have hst := boxStep_bump c l bs (fun b hb2 hbl => by
    have := hs b.id hbl
    rw [nextOf_mem hn hb2] at this
    exact this)
  have hi2 : i ∈ ids (bumpAll l bs) := by rw [ids_bumpAll]; exact hi
  obtain ⟨b, hb2, rfl⟩ := List.mem_map.1 hi2
  have hnd : (ids (bumpAll l bs)).Nodup := by rw [ids_bumpAll]; exact hn
  have h1 := hst.ok last hb b hb2
  rw [nextOf_mem hnd hb2]
  have h2 := h1.next
  have h3 := hc.uid
  omega

/-- What the loop that numbers the members keeps. -/
structure NumRel (w w5 wr : World) (g : Nat) (q : Lies) (x2 : Acc) (l : List Int) (B : Nat) (c0 c1 c2 c3 c4 c6 c7 : Value) (k : Nat) (mv : Value) : Prop where
  st : Turned w wr g q { x2 with boxes := (numbers (l.take k) x2.boxes).1 } q
  ch : Chg (q.own g) w5 wr
  blk : Blk wr B 90 #[c0, c1, c2, c3, c4, mv, c6, c7]
  mem : ∃ h, Sl wr 138 2 mv h k (flatG encMem (numbers (l.take k) x2.boxes).2) ∧ ∀ b, h = some b → w5.heap.size ≤ b

theorem NumRel.next {w w5 wr W W2 : World} {g : Nat} {q : Lies} {x x2 : Acc} {l : List Int} {B : Nat} {c0 c1 c2 c3 c4 c6 c7 : Value} {k : Nat} {mv mv' : Value} (h : NumRel w w5 wr g q x2 l B c0 c1 c2 c3 c4 c6 c7 k mv) (hw : StoreAt w g q x) (hB5 : w5.heap.size ≤ B) (h5 : w.heap.size ≤ w5.heap.size) (hk : k < l.length)
    (ht : Turned wr W g q { x2 with boxes := bump l[k] (numbers (l.take k) x2.boxes).1 } q) {hh h' : Option Nat} (hs : Sl W 138 2 mv hh k (flatG encMem (numbers (l.take k) x2.boxes).2)) (hf : ∀ b, hh = some b → w5.heap.size ≤ b)
    (hs2 : Sl W2 138 2 mv' h' (k + 1) (flatG encMem (numbers (l.take k) x2.boxes).2 ++ [.int .i64 l[k], .int .i64 (nextOf (numbers (l.take k) x2.boxes).1 l[k])])) (hc : Chg hh.toList W W2) (ho : h' = hh ∨ ∃ g, h' = some g ∧ W.heap.size ≤ g) :
    NumRel w w5 (W2.setCell ⟨B, 5, none⟩ mv') g q x2 l B c0 c1 c2 c3 c4 c6 c7 (k + 1) mv' := by
  have hsn := numbers_snoc (l.take k) l[k] x2.boxes
  rw [← List.take_succ_eq_append_getElem hk] at hsn
  have hsz := ht.chg.size
  have hwr := h.ch.size
  have hBw : B < wr.heap.size := h.blk.lt
  have hblkW : Blk W B 90 #[c0, c1, c2, c3, c4, mv, c6, c7] := h.blk.fresh (by omega) hw ht.chg
  have hne : ∀ b, hh = some b → b ≠ B := hs.ne_blk hblkW (by decide)
  have hc2 : Chg (B :: hh.toList) W (W2.setCell ⟨B, 5, none⟩ mv') := (hc.mono fun j hj => .inl (List.mem_cons_of_mem _ hj)).set (.inl (by simp)) mv'
  have hfr : ∀ j ∈ B :: hh.toList, w5.heap.size ≤ j := fun j hj => by
    rcases List.mem_cons.1 hj with rfl | hj
    · omega
    · exact hf j (by simpa using hj)
  have hnew : ∀ b, h' = some b → w5.heap.size ≤ b := fun b hb => by
    rcases ho with h1 | ⟨g2, h1, h2⟩
    · exact hf b (by rw [← h1]; exact hb)
    · rw [h1] at hb
      injection hb with hb
      omega
  have hneB : h' ≠ some B := fun e => by
    rcases ho with h1 | ⟨g2, h1, h2⟩
    · exact hne B (by rw [← h1]; exact e) rfl
    · rw [h1] at e
      injection e with e
      omega
  refine ⟨?_, ?_, ?_, ⟨h', ?_, hnew⟩⟩
  · rw [hsn]
    exact (h.st.trans ht).newer hw hc2 fun j hj => Nat.le_trans h5 (hfr j hj)
  · exact (h.ch.trans ht.chg (fun i hi => .inl hi)).trans hc2 fun i hi => .inr (hfr i hi)
  · exact (hblkW.chg hc (fun hm => hne B (by simpa using hm) rfl)).set 5 mv'
  · rw [hsn, flatG_append]
    exact hs2.far (p := ⟨B, 5, none⟩) hneB mv'

end Go.Proofs.YtgkfknbhkonfdaaGreatDoor
