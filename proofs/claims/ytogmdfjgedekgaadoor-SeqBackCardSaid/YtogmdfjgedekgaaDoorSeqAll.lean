/-
  The walks of seq.In and of pillarboxlaw21.SeqAll.
-/
import Derived.Test.YtogmdfjgedekgaaDoorSeqLawW
namespace Go.Proofs.YtogmdfjgedekgaaDoor
open Go.Shelf Go.RowKit Go.Lib
attribute [local go_sem ↓] Go.wp_at_zero Go.wp_at_succ

set_option maxRecDepth 100000 in
theorem idx0_any (A : Option Addr) (c : Nat) (fv : Value) (w : World) :
    Calls Tryd.prog 45 #[.slice A 0 c, fv] w fun e w' => e = .returned (.int .i64 (-1)) ∧ w = w' := by
  go_enter Tryd.func45, Tryd.ntmps45
  go_wp2
  refine wp_loop_rounds 1 ?_
  rw [rounds_succ]
  go_wp2
  go_ret
  exact ⟨rfl, rfl⟩
set_option maxRecDepth 100000 in
theorem contains0_any (A : Option Addr) (c : Nat) (fv : Value) (w : World) :
    Calls Tryd.prog 29 #[.slice A 0 c, fv] w fun e w' => e = .returned (.bool false) ∧ w = w' := by
  have hi := idx0_any A c fv w
  go_enter Tryd.func29, Tryd.ntmps29
  go_wp2_with (first
    | (go_at_call 45; refine hi.mono ?_; rintro e w2 ⟨rfl, rfl⟩)
    | fail)
  go_ret
  exact ⟨rfl, rfl⟩

set_option maxRecDepth 100000 in
set_option maxHeartbeats 1000000 in
theorem in_any (w : World) (v : Value) (n : Nat) (l : List Rg) (x : Int) (hn : l.length = n) (hr : RdS w [] 2 v n (flatR l)) :
    Calls Tryd.prog 18 #[v, .int .i64 x] w fun e w' => e = .returned (.bool (inL l x)) ∧ Below w.heap.size w w' := by
  rcases Nat.eq_zero_or_pos n with h0 | h0
  · subst h0
    obtain rfl : l = [] := List.eq_nil_of_length_eq_zero hn
    obtain ⟨A, cap, rfl, _, _⟩ := hr.form
    have hc := fun fv W => contains0_any A cap fv W
    clear hr hn
    go_enter Tryd.func18, Tryd.ntmps18
    go_wp2_with (first
      | (go_at_call 29; refine (hc _ _).mono ?_; rintro e w2 ⟨rfl, rfl⟩)
      | fail)
    go_ret
    exact ⟨rfl, (Below.refl _ _).alloc (Nat.le_refl _) _⟩
  · obtain ⟨b, off, cap, rfl, hnc, hcm, hlt, _, hat⟩ := hr.at_ h0
    have hw1 : (w.alloc (.cells #[.int .i64 x] 3)).cell? ⟨w.heap.size, 0, none⟩ = some (.int .i64 x) := (World.cell?_alloc_at _ _ _ _ rfl).trans rfl
    have hp := inPred_any x w.heap.size _ hw1
    have eg : ∀ args W, (callFunc 30 args).run Tryd.prog W = .ok (.enter 30 args) W := enters_of Tryd.func30 (by kernel_rfl) rfl
    have hc := AnyQ.slices_ContainsFunc Tryd.containsR 2 Tryd.isAgg35 Tryd.sizeOf35 encR (fun _ => rfl) (inR x) 30 #[.pointer (some ⟨w.heap.size, 0, none⟩)] eg b off n cap l (w.alloc (.cells #[.int .i64 x] 3)) hp (by omega) (by unfold maxLen at hcm; omega) (by simp; omega)
      (fun j hj i u hu => by
        have h2 : i < 2 := by
          have := (List.getElem?_eq_some_iff.1 hu).1
          simpa [encR] using this
        rw [World.cell?_alloc_lt w _ _ hlt, show off + j * 2 + i = off + (j * 2 + i) by omega, hat _ (by omega)]
        have h3 := flatR_at l j hj
        rw [getElem!_pos l j hj] at hu
        match i, h2 with
        | 0, _ => rw [Nat.add_zero, h3.1, ← hu]; rfl
        | 1, _ => rw [h3.2, ← hu]; rfl)
    have hall : (l.take n).any (inR x) = inL l x := by
      rw [List.take_of_length_le (by omega)]
      rfl
    rw [hall] at hc
    have HC : Hid (∀ (e : Ending) w', Below (w.alloc (.cells #[.int .i64 x] 3)).heap.size (w.alloc (.cells #[.int .i64 x] 3)) w' → Below w.heap.size w w') := Lib.hid fun _ w' hb => ((Below.refl w.heap.size w).alloc (Nat.le_refl _) (.cells #[.int .i64 x] 3)).trans (hb.mono (by simp))
    generalize inL l x = r at hc
    clear hat hr hp eg hall hw1
    go_enter Tryd.func18, Tryd.ntmps18
    go_wp2_with (first
      | (go_at_call 29; refine hc.mono ?_; rintro e w2 ⟨rfl, hb⟩; have HB := Lib.hid (HC.out (.returned (.bool r)) w2 hb); clear hb hc HC)
      | fail)
    go_ret
    exact ⟨rfl, HB.out⟩

set_option maxRecDepth 100000 in
set_option maxHeartbeats 4000000 in
theorem seqAll_any (s : ByteArray) (star : Int) (va : Value) (l : List Rg) (x : Int) (vn : Value) (ns : List Int) (w : World) (hs : s.size ≤ 140737488351232) (hst : star ≤ 9223372036854775807)
    (hl : RdS w [] 2 va l.length (flatR l)) (hns : RdS w [] 1 vn ns.length (intV ns)) (hb : ∀ y ∈ ns, y ≤ 9223372036854775807) (hm : Mx w) (ht : Tens w) :
    Calls Tryd.prog 7 #[.string s, .int .i64 star, va, .int .i64 x, vn] w fun e w' => e = .returned (.bool true) ∧ Below w.heap.size w w' := by
  obtain ⟨n, hn⟩ : ∃ n, l.length = n := ⟨_, rfl⟩
  obtain ⟨m, hmn⟩ : ∃ m, ns.length = m := ⟨_, rfl⟩
  rw [hn] at hl
  rw [hmn] at hns
  obtain ⟨A1, cap1, rfl, _, _⟩ := hl.form
  obtain ⟨A2, cap2, rfl, _, _⟩ := hns.form
  have hAw := awakeS_any w hm
  by_cases hgr : (300 < s.size ∧ s.size ≤ 1000) ∨ 100 < n ∨ 100 < m
  · clear hl hns hb ht hm hst hn hmn
    by_cases g1 : 300 < s.size
    all_goals by_cases g2 : s.size ≤ 1000
    all_goals by_cases g3 : 100 < n
    all_goals by_cases g4 : 100 < m
    all_goals first
      | (exfalso; omega)
      | (clear hgr
         go_enter Tryd.func7, Tryd.ntmps7
         go_wp2_with (first
           | (go_at_call 13; refine hAw.mono ?_; rintro e w5 ⟨rfl, hb⟩; have HB5 := Lib.hid hb; clear hb hAw)
           | fail)
         go_ret
         exact ⟨rfl, HB5.out⟩)
  · have g3 : ¬ 100 < n := fun h => hgr (.inr (.inl h))
    have g4 : ¬ 100 < m := fun h => hgr (.inr (.inr h))
    have hg12 : ¬ 300 < s.size ∨ (300 < s.size ∧ ¬ s.size ≤ 1000) := by omega
    have r1 := read_any s star w hs hst hm
    have r2 := fun W => refRead_any s star W hs hst
    rw [readL_eq] at r1
    generalize refReadL s.data.toList star = q at r1 r2
    obtain ⟨L, err⟩ := q
    have HRL := Lib.hid (fun W va vb (h1 : RdS W [] 2 va L.length (flatR L)) (h2 : RdS W [] 2 vb L.length (flatR L)) => ranges_any W va vb L L h1 h2)
    simp only [decide_true] at HRL
    have hNu := fun W => numS_any W err
    have HL := Lib.hid hl
    have HNS := Lib.hid hns
    have HN := Lib.hid hn
    have HMN := Lib.hid hmn
    have HIN := Lib.hid (fun W (hw : Below w.heap.size w W) => in_any W _ n l x hn (hl.below hw))
    have HRI := Lib.hid (fun W (hw : Below w.heap.size w W) => refIn_any W _ n l x hn (hl.below hw))
    have HTX := Lib.hid (fun W (hw : Below w.heap.size w W) => text_any W _ m ns hmn (hns.below hw) (by omega) hb (ht.below hw))
    have HRT := Lib.hid (fun W (hw : Below w.heap.size w W) => refText_any W _ m ns hmn (hns.below hw) (by omega) hb)
    have HAW := Lib.hid (fun W (hW : Mx W) => awakeS_any W hW)
    have HM := Lib.hid hm
    generalize inL l x = bi at HIN HRI
    generalize textL ns = T at HTX HRT
    generalize hln : L.length = k at *
    clear hl hns hb ht hm hgr hAw hn hmn hs hst
    rcases hg12 with g1 | ⟨g1, g2⟩
    all_goals
      go_enter Tryd.func7, Tryd.ntmps7
      go_wp2_with (first
        | (go_at_call 10; refine r1.mono ?_; rintro e w1 ⟨v1, h1, rfl, hs, hb⟩; have HB1 := Lib.hid hb; simp only [hln] at hs; obtain ⟨A3, cap3, rfl, _, _⟩ := hs.form; have HR1 := Lib.hid (hs.reads [] (by simp)); clear hb hs r1)
        | (go_at_call 17; refine (r2 _).mono ?_; rintro e w2 ⟨v2, h2, rfl, hs, hb⟩; have HB2 := Lib.hid (HB1.out.trans (hb.mono HB1.out.size)); simp only [hln] at hs; obtain ⟨A4, cap4, rfl, _, _⟩ := hs.form; have HR2 := Lib.hid (hs.reads [] (by simp)); have HQ1 := Lib.hid (HR1.out.below hb); clear hb hs r2 HR1)
        | (go_at_call 12; refine (HRL.out _ _ _ HQ1.out HR2.out).mono ?_; rintro e w3 ⟨rfl, hb⟩; have HB3 := Lib.hid (HB2.out.trans (hb.mono HB2.out.size)); clear hb HQ1 HR2)
        | (go_at_call 11; refine (hNu _).mono ?_; rintro e wn ⟨rfl, rfl⟩)
        | (go_at_call 18; refine (HIN.out _ HB3.out).mono ?_; rintro e w4 ⟨rfl, hb⟩; have HB4 := Lib.hid (HB3.out.trans (hb.mono HB3.out.size)); clear hb)
        | (go_at_call 19; refine (HRI.out _ HB4.out).mono ?_; rintro e w5 ⟨rfl, rfl⟩)
        | (go_at_call 20; refine (HTX.out _ HB4.out).mono ?_; rintro e w6 ⟨rfl, hb⟩; have HB6 := Lib.hid (HB4.out.trans (hb.mono HB4.out.size)); clear hb)
        | (go_at_call 21; refine (HRT.out _ HB6.out).mono ?_; rintro e w7 ⟨rfl, hb⟩; have HB7 := Lib.hid (HB6.out.trans (hb.mono HB6.out.size)); clear hb)
        | (go_at_call 13; refine (HAW.out _ (HM.out.below HB7.out)).mono ?_; rintro e w8 ⟨rfl, hb⟩; have HB8 := Lib.hid (HB7.out.trans (hb.mono HB7.out.size)); clear hb)
        | fail)
      go_ret
      exact ⟨rfl, HB8.out⟩

end Go.Proofs.YtogmdfjgedekgaaDoor
