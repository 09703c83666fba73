/-
  The walk of pillarboxlaw21.SeqTurns.
-/
import Derived.Test.YtogmdfjgedekgaaDoorSeqEmpty
namespace Go.Proofs.YtogmdfjgedekgaaDoor
open Go.RowKit Go.Lib
attribute [local go_sem ↓] Go.wp_at_zero Go.wp_at_succ

theorem rGo_eq {l m : List Rg} (h : ∀ n, 1 ≤ n → (Has l n ↔ Has m n)) : rGo l = rGo m := by
  obtain ⟨a, b⟩ := rGo_ok l
  obtain ⟨c, d⟩ := rGo_ok m
  refine canon_unique a c fun n => ?_
  rw [b, d]
  constructor
  · rintro ⟨h1, h2⟩
    exact ⟨h1, (h n h1).1 h2⟩
  · rintro ⟨h1, h2⟩
    exact ⟨h1, (h n h1).2 h2⟩
theorem iEnd_fold_len : ∀ (l : List Rg) (s : Ins), (iEnd (l.foldl iStep s)).length ≤ (iEnd s).length + l.length
  | [], s => by simp
  | y :: l, s => by
    rw [List.foldl_cons]
    refine Nat.le_trans (iEnd_fold_len l (iStep s y)) ?_
    have : (iEnd (iStep s y)).length ≤ (iEnd s).length + 1 := by
      unfold iStep
      split
      · unfold iEnd
        cases s.put <;> simp
      · split
        · unfold iEnd
          cases s.put <;> simp
        · unfold iEnd
          cases s.put <;> simp
    rw [List.length_cons]
    omega
theorem rStep_len (out : List Rg) (x : Rg) : (rStep out x).length ≤ out.length + 1 := by
  unfold rStep
  simp only
  split
  · omega
  · unfold iOut
    have := iEnd_fold_len out ⟨(max x.1 1, x.2), [], false⟩
    have e : (iEnd ⟨(max x.1 1, x.2), [], false⟩).length = 1 := rfl
    omega
theorem rGo_len : ∀ (l out : List Rg), (l.foldl rStep out).length ≤ out.length + l.length
  | [], out => by simp
  | x :: l, out => by
    rw [List.foldl_cons]
    have := rGo_len l (rStep out x)
    have := rStep_len out x
    rw [List.length_cons]
    omega
theorem rGo_pos {l : List Rg} {n : Int} (h1 : 1 ≤ n) (h2 : Has l n) : 0 < (rGo l).length := by
  have h := ((rGo_ok l).2 n).2 ⟨h1, h2⟩
  rcases hl : rGo l with _ | ⟨x, r⟩
  · rw [hl] at h
    exact absurd h (has_nil n)
  · simp

theorem refGo_cons (star : Int) (p : List UInt8) (ps : List (List UInt8)) (acc : List Rg) (r : Rg) (h : partL p star = (r, true)) : refGo star (p :: ps) acc = refGo star ps (acc ++ [r]) := by
  show (if (partL p star).2 then refGo star ps (acc ++ [(partL p star).1]) else none) = _
  rw [h]
  rfl
theorem refRead_two (p q : List UInt8) (star : Int) (r s : Rg) (hn : (p ++ 44 :: q).length ≤ 1000) (h1 : ∀ b ∈ p, b ≠ 44) (h2 : ∀ b ∈ q, b ≠ 44) (hp : partL p star = (r, true)) (hq : partL q star = (s, true)) : refReadL (p ++ 44 :: q) star = (rGo [r, s], 0) := by
  unfold refReadL
  rw [if_neg (by omega), piecesC_cut 44 p q h1, piecesC_end 44 q h2, refGo_cons _ _ _ _ _ hp, refGo_cons _ _ _ _ _ hq]
  rfl
theorem refRead_three (p q u : List UInt8) (star : Int) (r s t : Rg) (hn : (p ++ 44 :: (q ++ 44 :: u)).length ≤ 1000) (h1 : ∀ b ∈ p, b ≠ 44) (h2 : ∀ b ∈ q, b ≠ 44) (h3 : ∀ b ∈ u, b ≠ 44)
    (hp : partL p star = (r, true)) (hq : partL q star = (s, true)) (hu : partL u star = (t, true)) : refReadL (p ++ 44 :: (q ++ 44 :: u)) star = (rGo [r, s, t], 0) := by
  unfold refReadL
  rw [if_neg (by omega), piecesC_cut 44 p _ h1, piecesC_cut 44 q u h2, piecesC_end 44 u h3, refGo_cons _ _ _ _ _ hp, refGo_cons _ _ _ _ _ hq, refGo_cons _ _ _ _ _ hu]
  rfl

theorem no44_two (x y : Int) : ∀ b ∈ digL x ++ 58 :: digL y, b ≠ 44 := by
  intro b hb
  rcases List.mem_append.1 hb with hb | hb
  · exact dig_no _ 44 (.inl (by decide)) b hb
  · rcases List.mem_cons.1 hb with rfl | hb
    · decide
    · exact dig_no _ 44 (.inl (by decide)) b hb
theorem part_digs (x y star : Int) (hx : 1 ≤ x ∧ x ≤ 65536) (hy : 1 ≤ y ∧ y ≤ 65536) : partL (digL x ++ 58 :: digL y) star = (rng2 x y, true) :=
  partL_two _ _ _ _ _ (dig_no _ 58 (.inr (by decide))) (boundL_dig _ _ (by omega) (by omega)) (boundL_dig _ _ (by omega) (by omega))

theorem turnsR (x y z u : Int) (hx : 1 ≤ x ∧ x ≤ 65536) (hy : 1 ≤ y ∧ y ≤ 65536) (hz : 1 ≤ z ∧ z ≤ 65536) (hu : 1 ≤ u ∧ u ≤ 65536) (L : List Rg) (hL : rGo [rng2 x y, rng2 z u] = L) :
    refReadL (digL x ++ 58 :: (digL y ++ 44 :: (digL z ++ 58 :: digL u))) 7 = (L, 0) ∧ refReadL (digL u ++ 58 :: (digL z ++ 44 :: (digL y ++ 58 :: (digL x ++ 44 :: digL x)))) 9 = (L, 0) ∧ 0 < L.length ∧ L.length < 3 := by
  have lx := digL_le x (by omega)
  have ly := digL_le y (by omega)
  have lz := digL_le z (by omega)
  have lu := digL_le u (by omega)
  refine ⟨?_, ?_, ?_, ?_⟩
  · have h := refRead_two (digL x ++ 58 :: digL y) (digL z ++ 58 :: digL u) 7 _ _ (by simp; omega) (no44_two x y) (no44_two z u) (part_digs x y 7 hx hy) (part_digs z u 7 hz hu)
    rw [hL] at h
    simpa using h
  · have h := refRead_three (digL u ++ 58 :: digL z) (digL y ++ 58 :: digL x) (digL x) 9 _ _ _ (by simp; omega) (no44_two u z) (no44_two y x) (dig_no _ 44 (.inl (by decide))) (part_digs u z 9 hu hz) (part_digs y x 9 hy hx)
      (partL_one (digL x) 9 x (dig_no _ 58 (.inr (by decide))) (boundL_dig _ _ (by omega) (by omega)))
    have e : rGo [rng2 u z, rng2 y x, (x, x)] = L := by
      rw [← hL]
      refine rGo_eq fun n hn => ?_
      rw [has_rng2, has_rng2, has_cons, has_rng2, has_rng2]
      simp only [has_nil, or_false]
      omega
    rw [e] at h
    simpa using h
  · rw [← hL]
    exact rGo_pos (n := x) hx.1 (by rw [has_rng2]; left; omega)
  · rw [← hL]
    have := rGo_len [rng2 x y, rng2 z u] []
    simp only [List.length_nil, List.length_cons] at this
    show (List.foldl rStep [] [rng2 x y, rng2 z u]).length < 3
    omega
theorem turnsT (x n : Int) (hx : 1 ≤ x ∧ x ≤ 65536) (hn : 1 ≤ n ∧ n ≤ 65536) (L : List Rg) (hL : rGo [rng2 n x] = L) :
    refReadL (42 :: 58 :: digL x) n = (L, 0) ∧ refReadL (digL n ++ 58 :: digL x) 1 = (L, 0) ∧ L.length ≤ 1000 := by
  have lx := digL_le x (by omega)
  have ln := digL_le n (by omega)
  refine ⟨?_, ?_, ?_⟩
  · have hp : partL ([42] ++ 58 :: digL x) n = (rng2 n x, true) := partL_two [42] _ n _ _ (by decide) (by unfold boundL; rw [if_pos rfl, if_neg (by omega)]) (boundL_dig _ _ (by omega) (by omega))
    have h := refRead_one ([42] ++ 58 :: digL x) n _ (by simp; omega) (fun b hb => by
      rcases List.mem_append.1 hb with hb | hb
      · rw [List.mem_singleton.1 hb]
        decide
      · rcases List.mem_cons.1 hb with rfl | hb
        · decide
        · exact dig_no _ 44 (.inl (by decide)) b hb) hp
    rw [hL] at h
    exact h
  · have h := refRead_one _ 1 _ (by simp; omega) (no44_two n x) (part_digs n x 1 hn hx)
    rw [hL] at h
    exact h
  · rw [← hL]
    have := rGo_len [rng2 n x] []
    simp only [List.length_nil, List.length_cons] at this
    show (List.foldl rStep [] [rng2 n x]).length ≤ 1000
    omega

set_option maxRecDepth 100000 in
set_option maxHeartbeats 8000000 in
theorem seqTurns_any (a b c d s : Nat) (ha : a ≤ 65535) (hb : b ≤ 65535) (hc : c ≤ 65535) (hd : d ≤ 65535) (hs : s ≤ 65535) (w : World) (hm : Mx w) :
    Calls Tryd.prog 3 #[.int .u16 a, .int .u16 b, .int .u16 c, .int .u16 d, .int .u16 s] w fun e w' => e = .returned (.bool true) ∧ Below w.heap.size w w' := by
  have da := fun W => digitsL_any a ha W
  have db := fun W => digitsL_any b hb W
  have dc := fun W => digitsL_any c hc W
  have dd := fun W => digitsL_any d hd W
  have ds := fun W => digitsL_any s hs W
  have la := dig_len a ha
  have lb := dig_len b hb
  have lc := dig_len c hc
  have ld := dig_len d hd
  have ls := dig_len s hs
  obtain ⟨L, hL⟩ : ∃ L, rGo [rng2 (1 + (a : Int)) (1 + (b : Int)), rng2 (1 + (c : Int)) (1 + (d : Int))] = L := ⟨_, rfl⟩
  obtain ⟨M, hM⟩ : ∃ M, rGo [rng2 (1 + (s : Int)) (1 + (a : Int))] = M := ⟨_, rfl⟩
  obtain ⟨e1, e2, l0, l3⟩ := turnsR (1 + (a : Int)) (1 + (b : Int)) (1 + (c : Int)) (1 + (d : Int)) (by omega) (by omega) (by omega) (by omega) L hL
  obtain ⟨e3, e4, m1⟩ := turnsT (1 + (a : Int)) (1 + (s : Int)) (by omega) (by omega) M hM
  have hs0 : (s : Int) ≤ 65535 := by omega
  clear hL hM
  have r1 := fun W (hW : Mx W) => readV_any _ 7 L 0 W (by simp; omega) (by decide) hW e1
  have r2 := fun W (hW : Mx W) => readV_any _ 9 L 0 W (by simp; omega) (by decide) hW e2
  have r3 := fun W (hW : Mx W) => readV_any _ (1 + (s : Int)) M 0 W (by simp; omega) (by omega) hW e3
  have r4 := fun W (hW : Mx W) => readV_any _ 1 M 0 W (by simp; omega) (by decide) hW e4
  clear e1 e2 e3 e4
  generalize digL (1 + (a : Int)) = DA at *
  generalize digL (1 + (b : Int)) = DB at *
  generalize digL (1 + (c : Int)) = DC at *
  generalize digL (1 + (d : Int)) = DD at *
  generalize digL (1 + (s : Int)) = DS at *
  have hNu := fun W => numS_any W 0
  have HAW := Lib.hid (fun W (hW : Mx W) => awakeS_any W hW)
  have hap : ∀ a b : List UInt8, ByteArray.mk a.toArray ++ ByteArray.mk b.toArray = ByteArray.mk (a ++ b).toArray := fun a b => ByteArray.mk_append_mk a b
  have HM := Lib.hid hm
  have HRL := Lib.hid (fun W va vb (h1 : RdS W [] 2 va L.length (flatR L)) (h2 : RdS W [] 2 vb L.length (flatR L)) => ranges_any W va vb L L h1 h2)
  have HRM := Lib.hid (fun W va vb (h1 : RdS W [] 2 va M.length (flatR M)) (h2 : RdS W [] 2 vb M.length (flatR M)) => ranges_any W va vb M M h1 h2)
  simp only [decide_true] at HRL HRM
  generalize hln : L.length = n at *
  generalize hmn : M.length = m at *
  have hd0 : decide (0 < n) = true := decide_eq_true l0
  have hd3 : decide ((n : Int) < 3) = true := decide_eq_true (by omega)
  clear hm
  go_enter Tryd.func3, Tryd.ntmps3
  go_wp2_with (first
    | (go_at_call 9; (with_reducible refine (da _).mono ?_); rintro e w1 ⟨rfl, hb⟩; have HB1 := Lib.hid hb; clear hb da)
    | (go_at_call 9; (with_reducible refine (db _).mono ?_); rintro e w2 ⟨rfl, hb⟩; have HB2 := Lib.hid (HB1.out.trans (hb.mono HB1.out.size)); clear hb db)
    | (go_at_call 9; (with_reducible refine (dc _).mono ?_); rintro e w3 ⟨rfl, hb⟩; have HB3 := Lib.hid (HB2.out.trans (hb.mono HB2.out.size)); clear hb dc)
    | (go_at_call 9; (with_reducible refine (dd _).mono ?_); rintro e w4 ⟨rfl, hb⟩; have HB4 := Lib.hid (HB3.out.trans (hb.mono HB3.out.size)); clear hb dd)
    | (go_at_call 10; (with_reducible refine (r1 _ (HM.out.below HB4.out)).mono ?_); rintro e w5 ⟨v1, h1, rfl, hs, hb⟩; have HB5 := Lib.hid (HB4.out.trans (hb.mono HB4.out.size)); simp only [hln] at hs; obtain ⟨A1, cap1, rfl, _, _⟩ := hs.form; have HR1 := Lib.hid (hs.reads [] (by simp)); clear hb hs r1)
    | (go_at_call 10; (with_reducible refine (r2 _ (HM.out.below HB5.out)).mono ?_); rintro e w6 ⟨v2, h2, rfl, hs, hb⟩; have HB6 := Lib.hid (HB5.out.trans (hb.mono HB5.out.size)); simp only [hln] at hs; obtain ⟨A2, cap2, rfl, _, _⟩ := hs.form; have HR2 := Lib.hid (hs.reads [] (by simp)); have HQ1 := Lib.hid (HR1.out.below hb); clear hb hs r2 HR1)
    | (go_at_call 10; (with_reducible refine (r3 _ (HM.out.below HB6.out)).mono ?_); rintro e w7 ⟨v3, h3, rfl, hs, hb⟩; have HB7 := Lib.hid (HB6.out.trans (hb.mono HB6.out.size)); simp only [hmn] at hs; obtain ⟨A3, cap3, rfl, _, _⟩ := hs.form; have HR3 := Lib.hid (hs.reads [] (by simp)); have HP1 := Lib.hid (HQ1.out.below hb); have HP2 := Lib.hid (HR2.out.below hb); clear hb hs r3 HQ1 HR2)
    | (go_at_call 9; (with_reducible refine (ds _).mono ?_); rintro e w8 ⟨rfl, hb⟩; have HB8 := Lib.hid (HB7.out.trans (hb.mono HB7.out.size)); have HO1 := Lib.hid (HP1.out.below hb); have HO2 := Lib.hid (HP2.out.below hb); have HO3 := Lib.hid (HR3.out.below hb); clear hb ds HP1 HP2 HR3)
    | (go_at_call 10; (with_reducible refine (r4 _ (HM.out.below HB8.out)).mono ?_); rintro e w9 ⟨v4, h4, rfl, hs, hb⟩; have HB9 := Lib.hid (HB8.out.trans (hb.mono HB8.out.size)); simp only [hmn] at hs; obtain ⟨A4, cap4, rfl, _, _⟩ := hs.form; have HN4 := Lib.hid (hs.reads [] (by simp)); have HN1 := Lib.hid (HO1.out.below hb); have HN2 := Lib.hid (HO2.out.below hb); have HN3 := Lib.hid (HO3.out.below hb); clear hb hs r4 HO1 HO2 HO3)
    | (go_at_call 11; refine (hNu _).mono ?_; rintro e wn ⟨rfl, rfl⟩)
    | (go_at_call 12; (with_reducible refine (HRL.out _ _ _ HN1.out HN2.out).mono ?_); rintro e w10 ⟨rfl, hb⟩; have HB10 := Lib.hid (HB9.out.trans (hb.mono HB9.out.size)); have HK3 := Lib.hid (HN3.out.below hb); have HK4 := Lib.hid (HN4.out.below hb); clear hb HN1 HN2 HN3 HN4)
    | (go_at_call 12; (with_reducible refine (HRM.out _ _ _ HK3.out HK4.out).mono ?_); rintro e w11 ⟨rfl, hb⟩; have HB11 := Lib.hid (HB10.out.trans (hb.mono HB10.out.size)); clear hb HK3 HK4)
    | (go_at_call 13; refine (HAW.out _ (HM.out.below HB11.out)).mono ?_; rintro e w12 ⟨rfl, hb⟩; have HB12 := Lib.hid (HB11.out.trans (hb.mono HB11.out.size)); clear hb)
    | fail)
  go_ret
  exact ⟨rfl, HB12.out⟩

end Go.Proofs.YtogmdfjgedekgaaDoor
