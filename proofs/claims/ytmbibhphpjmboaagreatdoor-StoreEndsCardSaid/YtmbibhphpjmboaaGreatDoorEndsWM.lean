/-
  The walk of pillarboxlaw18.StoreEnds.
-/
import Derived.Test.YtmbibhphpjmboaaGreatDoorSeenWM
import Derived.Test.YtmbibhphpjmboaaGreatDoorGQ
import Derived.Test.YtmbibhphpjmboaaGreatDoorEndsPlainM
namespace Go.Proofs.YtmbibhphpjmboaaGreatDoor
open Go.Shelf Go.RowKit
attribute [local go_sem ↓] Go.wp_at_zero Go.wp_at_succ

theorem minInt {P : Program} (ats : Array TypeId) (ty : TypeId) (a b : Int) (w : World) : (Builtin.min_ ats ty #[.int .i64 a, .int .i64 b]).run P w = .ok (.int .i64 (if b < a then b else a)) w := by
  simp [Builtin.min_, Builtin.min2]
/-- The email of number 1 stays where it is. -/
theorem ends_place {mod uid : Nat} {x : Acc} {i : Nat} (he : EnSt mod uid x i) (hi : 0 < i) {w : World} {g : Nat} {q : Lies} (h : StoreAt w g q x) (hf : Fit x) :
    Calls Tryz.prog 31 #[.pointer (some ⟨g, 0, none⟩), .int .i64 1, .slice (some ⟨w.heap.size, 0, none⟩) 1 1] (w.alloc (.cells #[.int .i64 1] 3)) fun e w' => e = .returned (.int .i64 0) ∧ Below w.heap.size w w' := by
  obtain ⟨m, r, hmr, h1, h2, _⟩ := he.first hi
  obtain ⟨b, hb, hb1, _⟩ := he.boxes
  have hin : (1 : Int) ∈ idsMl (q.ms.map (·.p)) := by
    rw [h.same, hmr]
    exact List.mem_cons.2 (.inl h1.symm)
  obtain ⟨j, hj, hpl, _, _, _, hfi⟩ := mail_at hin
  rw [h.same, hmr, List.find?_cons_of_pos (by simpa using h1)] at hfi
  have hmp : q.ms[j].p = m := (Option.some.inj hfi).symm
  have hr1 : rise [1] = [1] := rise_one 1
  refine (place_same (w.alloc (.cells #[.int .i64 1] 3)) g q x 1 [1] _ [] (h.alloc _) hf ((one_sl w).reads [] (by simp)) (by decide) (by decide) j hj hpl ?_ q.ms[j] rfl ?_ ?_).mono ?_
  · rw [hr1, hb]
    simp [hasBox, hb1]
  · rw [hr1, hmp, h2]
    decide
  · rw [hr1, hmp, h2]
    decide
  · rintro e w' ⟨rfl, hbw⟩
    exact ⟨rfl, below_then (below_alloc1 _ _) hbw⟩

set_option maxRecDepth 100000 in
set_option maxHeartbeats 8000000 in
theorem storeEnds_any (happ : AppendOk) (d s : Nat) (hd : d ≤ 255) (hs : s ≤ 255) (w : World) : Calls Tryz.prog 8 #[.int .u8 d, .int .u8 s] w fun e w' => e = .returned (.bool true) ∧ Below w.heap.size w w' := by
  have hW := wide_any w
  obtain ⟨Mo, hMo, hMo1, hMo2⟩ : ∃ Mo : Nat, (2 : Int) + (d : Int) % 20 = (Mo : Int) ∧ 2 ≤ Mo ∧ Mo ≤ 21 := ⟨2 + d % 20, by omega, by omega, by omega⟩
  obtain ⟨U, hU, hU1, hU2⟩ : ∃ U : Nat, (1 : Int) + (s : Int) % 20 = (U : Int) ∧ 1 ≤ U ∧ U ≤ 20 := ⟨1 + s % 20, by omega, by omega, by omega⟩
  obtain ⟨Q, hQ, hQ1, hQ2⟩ : ∃ Q : Nat, (Mo : Int) - 1 = (Q : Int) ∧ 1 ≤ Q ∧ Q ≤ 20 := ⟨Mo - 1, by omega, by omega, by omega⟩
  obtain ⟨E, hEe⟩ : ∃ E, mostE d s = E := ⟨_, rfl⟩
  have hE : (if (U : Int) < (Q : Int) then (U : Int) else (Q : Int)) = (E : Int) := by
    rw [← hEe]
    unfold mostE
    have h1 : U = 1 + s % 20 := by omega
    have h2 : Q = 1 + d % 20 := by omega
    by_cases h : U < Q
    · rw [if_pos (by omega), if_pos (by omega), h1]
    · rw [if_neg (by omega), if_neg (by omega), h2]
  have hE1 : 1 ≤ E ∧ E ≤ 20 := by
    by_cases h : (U : Int) < (Q : Int)
    · rw [if_pos h] at hE
      omega
    · rw [if_neg h] at hE
      omega
  obtain ⟨hE1, hE2⟩ := hE1
  have hN := fun W => newA_any 1000 100 1048576 U Mo 10000 200 (by unfold lim; omega) (by unfold lim; omega) (by unfold lim; omega) (by unfold lim; omega) (by unfold lim; omega) (by unfold lim; omega) (by unfold lim; omega) W
  have hcf : cfgN 1000 100 1048576 U Mo 10000 200 = endsC d s := by
    have h1 : (U : Int) = 1 + ((s % 20 : Nat) : Int) := by omega
    have h2 : (Mo : Int) = 2 + ((d % 20 : Nat) : Int) := by omega
    rw [h1, h2]
    rfl
  rw [hcf] at hN
  have hst : EnSt d s (newP (endsC d s)) 0 := enSt_new d s
  have hfit : Fit (newP (endsC d s)) := newP_fit (endsC_ok d s)
  have hmn := fun ats ty W => minInt (P := Tryz.prog) ats ty (Q : Int) (U : Int) W
  rw [hE] at hmn
  have HAPP := Lib.hid happ
  have HST := Lib.hid hst
  have HFIT := Lib.hid hfit
  have HEE := Lib.hid hEe
  clear happ hst hfit hcf hEe hE
  go_enter Tryz.func8, Tryz.ntmps8
  go_upto_if 38 with (first
    | (go_at_call 17; refine hW.mono ?_; rintro e w1 ⟨rfl, hb1⟩; have HB1 := Lib.hid hb1; clear hW hb1)
    | (go_at_call 16; refine (hN _).mono ?_; rintro e w2 ⟨g, q, rfl, ho⟩; have hbk := (Blk.new w1 29 #[.string ⟨#[117]⟩, .string ⟨#[112]⟩, .int .i64 1000, .int .i64 100, .int .i64 1048576, .int .i64 (U : Int), .int .i64 (Mo : Int), .int .i64 10000, .int .i64 200]).below ho.below (Blk.new w1 29 _).lt; have c5 : w2.cell? ⟨w1.heap.size, 5, none⟩ = some (.int .i64 (U : Int)) := hbk.cell 5; have c6 : w2.cell? ⟨w1.heap.size, 6, none⟩ = some (.int .i64 (Mo : Int)) := hbk.cell 6; have HO := Lib.hid (ho.from_ (below_then HB1.out (below_alloc1 _ _))); clear hN ho hbk)
    | (go_at_call 18; refine (num_any _ _).mono ?_; rintro e wn ⟨rfl, rfl⟩)
    | fail)
  go_wp2_with fail
  clear c5 c6 hMo hU hQ hmn hd hs
  have HST0 : Hid (EnSt d s (newP (endsC d s)) (if 0 < E then 0 else E)) := Lib.hid (by rw [if_pos (by omega)]; exact HST.out)
  go_loopw [9] (fun iv wr => ∃ (i : Nat) (q' : Lies) (x : Acc), i ≤ 25 ∧ iv = .int .i64 i ∧ Hid (OwnStore w wr g q' x) ∧ Hid (Fit x) ∧ Hid (EnSt d s x (if i < E then i else E))) (fun iv _ => 25 - (intOf iv).toNat)
  case atStart => exact ⟨0, q, _, by omega, rfl, HO, HFIT, HST0⟩
  case round =>
    obtain ⟨i, q0, x0, hi25, rfl, HOm, HFm, HEm⟩ := hrel
    by_cases hlt : i < 25
    · have hlt1 : (i : Int) < 25 := by omega
      have hiw : IntKind.i64.wrap ((i : Int) + 1) = (i : Int) + 1 := IntWalk.i64_in _ (by omega)
      have hap := HAPP.out _ g q0 x0 [1] _ [] [] _ [] 0 [120] (one_in HOm.out.at_ HFm.out [120] (by decide))
      by_cases hiE : i < E
      · have he := HEm.out
        rw [if_pos hiE] at he
        obtain ⟨x1, hx1, he1⟩ := enSt_step he (by rw [HEE.out]; exact hiE) keysF_nil
        have hfx : Fit x1 := by
          have h1 := appendP_fit headF HFm.out [1] [] 0 [120] (by rw [keysF_nil]; decide)
          rw [hx1] at h1
          exact h1
        rw [hx1] at hap
        have HE1 : Hid (EnSt d s x1 (if i + 1 < E then i + 1 else E)) := Lib.hid (by
          by_cases h2 : i + 1 < E
          · rw [if_pos h2]
            exact he1
          · rw [if_neg h2, show E = i + 1 by omega]
            exact he1)
        have HF1 := Lib.hid hfx
        have hiE1 : (i : Int) < (E : Int) := by omega
        have hd4 : decide (i < E) = true := decide_eq_true hiE
        have hd5 : decide (E ≤ i) = false := decide_eq_false (by omega)
        clear he hx1 he1 hfx
        go_wp2_with (first
          | (go_at_call 19; refine hap.mono ?_; rintro e w3 ⟨rfl, q1, ht⟩; have HO1 := Lib.hid ((HOm.out.later (below_alloc1 _ _)).turned ht); clear hap ht)
          | (go_at_call 18; refine (num_any _ _).mono ?_; rintro e wn ⟨rfl, rfl⟩)
          | fail)
        refine ⟨?_, by simp [intOf]; omega⟩
        first | exact ⟨i + 1, q1, x1, by omega, by go_num, HO1, HF1, HE1⟩ | ((repeat apply Exists.intro); exact ⟨⟨i + 1, q1, x1, by omega, by go_num, HO1, HF1, HE1⟩, rfl⟩)
      · have he := HEm.out
        rw [if_neg hiE] at he
        have hx1 := enSt_end (x := x0) (by rw [HEE.out]; exact he) keysF_nil
        rw [hx1] at hap
        have HE1 : Hid (EnSt d s x0 (if i + 1 < E then i + 1 else E)) := Lib.hid (by
          rw [if_neg (by omega)]
          exact he)
        have hiE1 : ¬ (i : Int) < (E : Int) := by omega
        have hd4 : decide (i < E) = false := decide_eq_false hiE
        have hd5 : decide (E ≤ i) = true := decide_eq_true (by omega)
        clear he hx1
        go_wp2_with (first
          | (go_at_call 19; refine hap.mono ?_; rintro e w3 ⟨rfl, q1, ht⟩; have HO1 := Lib.hid ((HOm.out.later (below_alloc1 _ _)).turned ht); clear hap ht)
          | (go_at_call 18; refine (num_any _ _).mono ?_; rintro e wn ⟨rfl, rfl⟩)
          | fail)
        refine ⟨?_, by simp [intOf]; omega⟩
        first | exact ⟨i + 1, q1, x0, by omega, by go_num, HO1, HFm, HE1⟩ | ((repeat apply Exists.intro); exact ⟨⟨i + 1, q1, x0, by omega, by go_num, HO1, HFm, HE1⟩, rfl⟩)
    · have hlt1 : ¬ (i : Int) < 25 := by omega
      have he := HEm.out
      rw [if_neg (by omega)] at he
      have hml := he.len
      have hcl := he.clock
      have hbn : x0.boxes.length ≤ 1099511627776 := by have := HFm.out.nb; have := HFm.out.clock; have := HFm.out.cfg.mod; omega
      have hm1 := mails_any wr g q0 x0 HOm.out.at_ HFm.out.small
      rw [hml] at hm1
      have haw := fun W => awake_any HAPP.out W
      have hew : IntKind.i64.wrap (1 + (E : Int)) = 1 + (E : Int) := IntWalk.i64_in _ (by omega)
      have HE := Lib.hid he
      have HCL := Lib.hid hcl
      have hkp := enSt_keys he (by omega) keysF_nil
      have HKP := Lib.hid hkp
      clear he hml hcl hkp
      go_wp2_with (first
        | (go_at_call 20; refine hm1.mono ?_; rintro e w5 ⟨A5, c5, rfl, _, hb5⟩; have ho5 := HOm.out.later hb5; have hbx1 := boxes_any w5 g q0 x0 ho5.at_ hbn; have HO5 := Lib.hid ho5; clear hm1 hb5 ho5)
        | (go_at_call 25; (with_reducible refine hbx1.mono ?_); rintro e w6 ⟨v6, h6, rfl, hs6, ho6, hb6⟩; have o6 := HO5.out.later hb6; obtain ⟨A6, c6, rfl, _, _⟩ := hs6.form; have hpl := ends_place HE.out (by omega) o6.at_ HFm.out; have HO6 := Lib.hid o6; have HS6 := Lib.hid hs6; have HN6 : Hid (∀ b, h6 = some b → b ∉ q0.own g) := Lib.hid (fun b hb hm => by have t1 := ho6 b hb; have t2 := HO5.out.at_.lt b hm; omega); clear hbx1 hs6 ho6 hb6 o6)
        | (go_at_call 31; refine hpl.mono ?_; rintro e w7 ⟨rfl, hb7⟩; have o7 := HO6.out.later hb7; have hs7 := HS6.out.keep (fun b hb => hb7.block b (HS6.out.lt b hb)); have hkc := keys_said w7 g q0 x0 1 [] (.slice none 0 0) [] ⟨o7.at_, HFm.out, ⟨by simp, .inl ⟨rfl, rfl⟩⟩, by decide, fun t ht => (by simp at ht)⟩; rw [HKP.out] at hkc; have HO7 := Lib.hid o7; have HS7 := Lib.hid hs7; clear hpl hb7 o7 hs7)
        | (go_at_call 24; refine hkc.mono ?_; rintro e w8 ⟨rfl, q8, ht8⟩; have o8 := HO7.out.turned ht8; have hs8 := HS7.out.chg ht8.chg HN6.out; have hcc := clock_any g x0.clock w8 o8.at_.cell9; rw [HCL.out] at hcc; have hbx2 := boxes_any w8 g q8 x0 o8.at_ hbn; have HO8 := Lib.hid o8; have HS8 := Lib.hid hs8; clear hkc ht8 o8 hs8)
        | (go_at_call 26; refine hcc.mono ?_; rintro e wn ⟨rfl, rfl⟩; clear hcc)
        | (go_at_call 25; (with_reducible refine hbx2.mono ?_); rintro e w9 ⟨v9, h9, rfl, hs9, _, hb9⟩; obtain ⟨A9, c9, rfl, _, _⟩ := hs9.form; have hsm := sameB_any _ _ [] [] x0.boxes w9 ((HS8.out.keep (fun b hb => hb9.block b (HS8.out.lt b hb))).reads [] (by simp)) (hs9.reads [] (by simp)) hbn; have HO9 := Lib.hid (HO8.out.later hb9); clear hbx2 hs9 hb9)
        | (go_at_call 32; refine hsm.mono ?_; rintro e w10 ⟨rfl, hb10⟩; have HO10 := Lib.hid (HO9.out.later hb10); clear hsm hb10)
        | (go_at_call 18; refine (num_any _ _).mono ?_; rintro e wn ⟨rfl, rfl⟩)
        | (go_at_call 15; refine (haw _).mono ?_; rintro e w13 ⟨rfl, hb13⟩; have HB13 := Lib.hid hb13; clear hb13 haw)
        | fail)
      go_ret
      exact ⟨rfl, below_then HO10.out.below HB13.out⟩

end Go.Proofs.YtmbibhphpjmboaaGreatDoor
