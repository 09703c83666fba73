/-
  The walk of pillarboxlaw18.StoreFull.
-/
import Derived.Test.YtmbibhphpjmboaaGreatDoorBoxesLawM
import Derived.Test.YtmbibhphpjmboaaGreatDoorFullPlain2M
import Derived.Deep.QuietTactic
import Derived.BigQuiet
import Derived.Laws.MakeOwn
namespace Go.Proofs.YtmbibhphpjmboaaGreatDoor
open Go.Shelf Go.RowKit
attribute [local go_sem ↓] Go.wp_at_zero Go.wp_at_succ

theorem qsame {P : Program} {f : FuncId} {args : Array Value} {w : World} {n : Nat} {v : Value}
    (h : Calls P f args (w.drewN n) fun e w' => e = .returned v ∧ w.drewN n = w') : Calls P f args (w.drewN n) fun e w'' => e = .returned v ∧ ∃ m, w'' = w.drewN m :=
  Calls.quiet_of_same (h.mono fun _ _ ⟨a, b⟩ => ⟨a, b.symm⟩)
def zC (z : Nat) : Array Value := (List.replicate z (Value.int .u8 0)).toArray
theorem zC_made (n : Nat) : madeCells #[Value.int .u8 0] n = zC n := by
  unfold zC madeCells
  apply Array.ext'
  apply List.ext_getElem
  · simp
  · intro i h1 h2
    simp [Nat.mod_one]
theorem zeros_conv (z : Nat) (W : World) : Sem.run Tryz.prog (convert 22 9 (.slice (some ⟨W.heap.size, 0, none⟩) z z)) (W.alloc (.cells (zC z) 5)) = .ok (.string ⟨(zerosT z).toArray⟩) (W.alloc (.cells (zC z) 5)) := by
  have hB := Blk.new W 5 (zC z)
  refine run_string_row Tryz.underlying22 Tryz.underlying5 (l := zerosT z) (fun j hj => ?_) z (by simp [zerosT]) 9 Tryz.underlying9
  have hj2 : j < z := by simpa [zerosT] using hj
  refine ⟨?_, hB.frozen j⟩
  rw [hB.cell j]
  simp [zC, hj2, zerosT]
theorem name_conv (i : Nat) (hi : i < 12) (W : World) (c : Int) (hc : c = 97 + (i : Int)) : Sem.run Tryz.prog (convert 22 9 (.slice (some ⟨W.heap.size, 0, none⟩) 2 2)) (W.alloc (.cells #[.int .u8 110, .int .u8 c] 5)) = .ok (.string ⟨(nameN i).toArray⟩) (W.alloc (.cells #[.int .u8 110, .int .u8 c] 5)) := by
  have hB := Blk.new W 5 #[.int .u8 110, .int .u8 c]
  refine run_string_row Tryz.underlying22 Tryz.underlying5 (l := nameN i) (fun j hj => ?_) 2 rfl 9 Tryz.underlying9
  refine ⟨?_, hB.frozen j⟩
  rw [hB.cell j]
  match j, hj with
  | 0, _ => rfl
  | 1, _ => simp [nameN, hc]; omega
theorem Try.infoU8 : (Tryz.prog.info? 5).map (fun i => (i.zero, i.size, i.bytes)) = some (some (.int .u8 0), 1, 1) := by kernel_rfl
/-- The name of a round is one that the program calls right. -/
theorem name_right (i : Nat) (hi : i < 12) : rightU (nameN i) = asciiRight (nameN i) := by
  have h : ∀ i : Fin 12, rightU (nameN i.val) = asciiRight (nameN i.val) := by decide +kernel
  exact h ⟨i, hi⟩
theorem one_id {ms : List MailM} {m1 : MailP} {r : List MailP} (h : ms.map (·.p) = m1 :: r) : (flatG encM ms)[0]? = some (.int .i64 m1.id) := by
  match ms, h with
  | m :: r', h =>
    simp only [List.map_cons, List.cons.injEq] at h
    rw [← h.1]
    rfl

/-- The law's account, and its own configuration. -/
structure FullAt (w wr : World) (B M T : Nat) (g : Nat) (q : Lies) (x : Acc) : Prop where
  own : OwnStore w wr g q x
  fit : Fit x
  cfg : wr.cell? ⟨B, 2, none⟩ = some (.int .i64 M)
  siz : wr.cell? ⟨B, 4, none⟩ = some (.int .i64 T)
  no : B ∉ q.own g
theorem FullAt.later {w wr w' : World} {B M T g : Nat} {q : Lies} {x : Acc} (h : FullAt w wr B M T g q x) (hb : Below wr.heap.size wr w') : FullAt w w' B M T g q x :=
  ⟨h.own.later hb, h.fit, (hb.cell (World.block_lt_of_cell? _ _ h.cfg)).trans h.cfg, (hb.cell (World.block_lt_of_cell? _ _ h.siz)).trans h.siz, h.no⟩
theorem FullAt.turned {w wr w' : World} {B M T g : Nat} {q q' : Lies} {x x' : Acc} (h : FullAt w wr B M T g q x) (k : Turned wr w' g q x' q') (hf : Fit x') : FullAt w w' B M T g q' x' :=
  ⟨h.own.turned k, hf, (k.chg.cell (World.block_lt_of_cell? _ _ h.cfg) h.no).trans h.cfg, (k.chg.cell (World.block_lt_of_cell? _ _ h.siz) h.no).trans h.siz, fun hm => by
    rcases k.own B hm with h1 | h1
    · exact h.no h1
    · have h2 : B < wr.heap.size := World.block_lt_of_cell? _ _ h.cfg
      omega⟩
theorem append_full {z : Nat} (x : Acc) : appendP headF x [1] [] 0 (zerosT z) = fullA z x := by
  unfold appendP fullA
  rw [keysF_nil]

set_option maxRecDepth 100000 in
set_option maxHeartbeats 8000000 in
theorem storeFull_any (happ : AppendOk) (d s : Nat) (hd : d ≤ 255) (hs : s ≤ 255) (w : World) : Calls Tryz.prog 6 #[.int .u8 d, .int .u8 s] w fun e w' => e = .returned (.bool true) ∧ Below w.heap.size w w' := by
  have hW := wide_any w
  obtain ⟨M, hM, hM1, hM10⟩ : ∃ M : Nat, (1 : Int) + (d : Int) % 10 = (M : Int) ∧ 1 ≤ M ∧ M ≤ 10 := ⟨1 + d % 10, by omega, by omega, by omega⟩
  obtain ⟨z, hz, hz14⟩ : ∃ z : Nat, (s : Int) % 15 = (z : Int) ∧ z ≤ 14 := ⟨s % 15, by omega, by omega⟩
  obtain ⟨T, hT, hTM, hT1, hT2⟩ : ∃ T : Nat, (10 : Int) * (M : Int) = (T : Int) ∧ T = 10 * M ∧ 10 ≤ T ∧ T ≤ 100 := ⟨10 * M, by omega, rfl, by omega, by omega⟩
  have hN := fun W => newA_any M ((M : Int) + 1) T 1073741824 1073741824 10000 200 (by unfold lim; omega) (by unfold lim; omega) (by unfold lim; omega) (by unfold lim; omega) (by unfold lim; omega) (by unfold lim; omega) (by unfold lim; omega) W
  have hcf : cfgN M ((M : Int) + 1) T 1073741824 1073741824 10000 200 = fullC M := by
    rw [← hT]
    rfl
  rw [hcf] at hN
  have hgo : fullGo2 M z 12 0 (newP (fullC M)) = true := by
    have h1 := full_all2 ⟨M - 1, by omega⟩ ⟨z, by omega⟩
    simp only [show M - 1 + 1 = M by omega] at h1
    exact h1
  have hfit : Fit (newP (fullC M)) := newP_fit (fullC_ok hM1 hM10)
  have HAPP := Lib.hid happ
  have HGO := Lib.hid hgo
  have HFIT := Lib.hid hfit
  have HTM := Lib.hid hTM
  obtain ⟨zt, hzt⟩ : ∃ zt, zerosT z = zt := ⟨_, rfl⟩
  have hzl : zt.length = z := by rw [← hzt]; simp [zerosT]
  have HZT := Lib.hid hzt
  have hmk : ∀ W : World, (Instr.makeSlice 22 (.int .i64 (z : Int)) (.int .i64 (z : Int))).run Tryz.prog W = .ok (.slice (some ⟨W.heap.size, 0, none⟩) z z) (W.alloc (.cells (zC z) 5)) := fun W => by
    obtain ⟨i0, hi, hz0, hz1, hz2⟩ := info_parts Try.infoU8
    have h := run_make (P := Tryz.prog) W 22 5 i0 (.int .u8 0) Tryz.underlying22 hi hz0 .i64 .i64 (z : Int) (z : Int) (by omega) (by omega) (by rw [hz2]; omega) (by omega)
    rw [hz1, Int.toNat_natCast, Nat.mul_one] at h
    rw [← zC_made]
    exact h
  have hcv : ∀ W : World, Sem.run Tryz.prog (convert 22 9 (.slice (some ⟨W.heap.size, 0, none⟩) z z)) (W.alloc (.cells (zC z) 5)) = .ok (.string ⟨zt.toArray⟩) (W.alloc (.cells (zC z) 5)) := fun W => by
    have h1 := zeros_conv z W
    rw [hzt] at h1
    exact h1
  clear happ hgo hfit hcf hzt hTM
  go_enter Tryz.func6, Tryz.ntmps6
  go_upto_if 44 with (first
    | (go_at_call 17; refine hW.mono ?_; rintro e w1 ⟨rfl, hb1⟩; have HB1 := Lib.hid hb1; clear hW hb1)
    | (go_at_call 16; refine (hN _).mono ?_; rintro e w2 ⟨g, q, rfl, ho⟩; have HO := Lib.hid ho; clear hN ho)
    | (go_at_call 18; refine (num_any _ _).mono ?_; rintro e wn ⟨rfl, rfl⟩)
    | fail)
  obtain ⟨B, hBe⟩ : ∃ B, B = w1.heap.size := ⟨_, rfl⟩
  rw [← hBe]
  have hF0 : FullAt w w2 B M T g q (newP (fullC M)) := by
    have hbk := Blk.new w1 29 #[.string ⟨#[117]⟩, .string ⟨#[112]⟩, .int .i64 (M : Int), .int .i64 ((M : Int) + 1), .int .i64 (T : Int), .int .i64 1073741824, .int .i64 1073741824, .int .i64 10000, .int .i64 200]
    have hbk2 := hbk.below HO.out.below hbk.lt
    refine ⟨HO.out.from_ (below_then HB1.out (below_alloc1 _ _)), HFIT.out, ?_, ?_, fun hm => ?_⟩
    · rw [hBe]
      exact hbk2.cell 2
    · rw [hBe]
      exact hbk2.cell 4
    · have h1 := HO.out.own B hm
      rw [World.size_alloc] at h1
      omega
  have HF0 := Lib.hid hF0
  clear hF0 hBe
  go_wp2_with fail
  have HF3 : Hid (FullAt w (w2.alloc (.cells (zC z) 5)) B M T g q (newP (fullC M))) := Lib.hid (HF0.out.later (below_alloc1 _ _))
  clear hmk hcv hM hz hT hd hs
  go_loopw [9] (fun iv wr => ∃ (i : Nat) (q' : Lies) (x : Acc), i ≤ 12 ∧ iv = .int .i64 i ∧ Hid (FullAt w wr B M T g q' x) ∧ Hid (fullGo2 M z (12 - i) i x = true)) (fun iv _ => 12 - (intOf iv).toNat)
  case atStart => exact ⟨0, q, _, by omega, rfl, HF3, HGO⟩
  case round =>
    obtain ⟨i, q0, x0, hi12, rfl, HFm, HGm⟩ := hrel
    by_cases hlt : i < 12
    · have hlt1 : (i : Int) < 12 := by omega
      obtain ⟨nt, hnt⟩ : ∃ nt, nameN i = nt := ⟨_, rfl⟩
      have hnc : ∀ W : World, Sem.run Tryz.prog (convert 22 9 (.slice (some ⟨W.heap.size, 0, none⟩) 2 2)) (W.alloc (.cells #[.int .u8 110, .int .u8 (97 + (i : Int))] 5)) = .ok (.string ⟨nt.toArray⟩) (W.alloc (.cells #[.int .u8 110, .int .u8 (97 + (i : Int))] 5)) := fun W => by
        rw [← hnt]
        exact name_conv i hlt W _ rfl
      have hntl : nt.length = 2 := by rw [← hnt]; rfl
      have hu : IntKind.u8.wrap (97 + (i : Int)) = 97 + (i : Int) := by
        simp [IntKind.wrap, IntKind.bits, IntKind.signed]
        omega
      obtain ⟨x1, i1, e1, hA⟩ : ∃ x1 i1 e1, appendP headF x0 [1] [] 0 zt = (x1, i1, e1) := ⟨_, _, _, rfl⟩
      obtain ⟨x2, i2, e2, hMk⟩ : ∃ x2 i2 e2, makeP rightU x1 nt 0 = (x2, i2, e2) := ⟨_, _, _, rfl⟩
      have fx1 : Fit x1 := by
        have h1 := appendP_fit headF HFm.out.fit [1] [] 0 zt (by rw [keysF_nil]; decide)
        rw [hA] at h1
        exact h1
      have fx2 : Fit x2 := by
        have h1 := makeP_fit rightU (fun t h => rightU_len h) fx1 nt 0
        rw [hMk] at h1
        exact h1
      have hfa : fullA z x0 = (x1, i1, e1) := by rw [← append_full, HZT.out, hA]
      have hfm : fullM z i x0 = (x2, i2, e2) := by
        unfold fullM
        rw [hfa]
        have h1 := hMk
        rw [← hnt, makeP_right (name_right i hlt)] at h1
        exact h1
      obtain ⟨n, hn⟩ : ∃ n, 12 - i = n + 1 := ⟨11 - i, by omega⟩
      have hgm := HGm.out
      rw [hn] at hgm
      obtain ⟨g1, g2, g3⟩ := full_round hgm
      rw [hfa] at g1
      rw [hfm] at g2 g3
      obtain ⟨p, hp, hpb⟩ : ∃ p : Nat, (z : Int) * ((i : Int) + 1) = (p : Int) ∧ p = z * (i + 1) := ⟨z * (i + 1), by simp, rfl⟩
      have hpb2 : p ≤ 168 := by
        rw [hpb]
        exact Nat.le_trans (Nat.mul_le_mul hz14 (show i + 1 ≤ 12 by omega)) (by decide)
      have hiw : IntKind.i64.wrap ((i : Int) + 1) = (i : Int) + 1 := IntWalk.i64_in _ (by omega)
      have hcases : ((i : Int) < (M : Int) ∧ (p : Int) ≤ (T : Int) ∧ e1 = 0 ∧ e2 = 0) ∨ ((i : Int) < (M : Int) ∧ ¬ (p : Int) ≤ (T : Int) ∧ e1 = 8 ∧ e2 = 0) ∨ (¬ (i : Int) < (M : Int) ∧ e1 = 8 ∧ e2 = 8) := by
        have e1' : e1 = if fitsF M z i then 0 else 8 := g1
        have e2' : e2 = if i < M then 0 else 8 := g2
        have hfi : fitsF M z i = (decide (i < M) && decide (p ≤ T)) := by rw [hpb, HTM.out]; rfl
        rw [hfi] at e1'
        by_cases h1 : i < M
        · by_cases h2 : p ≤ T
          · exact .inl ⟨by omega, by omega, by simpa [h1, h2] using e1', by simpa [h1] using e2'⟩
          · exact .inr (.inl ⟨by omega, by omega, by simpa [h1, h2] using e1', by simpa [h1] using e2'⟩)
        · exact .inr (.inr ⟨by omega, by simpa [h1] using e1', by simpa [h1] using e2'⟩)
      have HG3 : Hid (fullGo2 M z (12 - (i + 1)) (i + 1) x2 = true) := Lib.hid (by rw [show 12 - (i + 1) = n by omega]; exact g3)
      have FX1 := Lib.hid fx1
      have FX2 := Lib.hid fx2
      have hap := HAPP.out _ g q0 x0 [1] _ [] [] _ [] 0 zt (one_in HFm.out.own.at_ HFm.out.fit zt (by omega))
      rw [hA] at hap
      have HMK := Lib.hid hMk
      clear hfa hfm hA hMk hgm g1 g2 g3 hn fx1 fx2 hnt hpb
      rcases hcases with ⟨hiM, hpT, rfl, rfl⟩ | ⟨hiM, hpT, rfl, rfl⟩ | ⟨hiM, rfl, rfl⟩
      · have hd1 : decide ((i : Int) < (M : Int)) = true := decide_eq_true hiM
        have hd4 : decide (M ≤ i) = false := decide_eq_false (by omega)
        go_wp2_with (first
        | (go_at_call 19; refine hap.mono ?_; rintro e w3 ⟨rfl, q1, ht⟩; have HF1 := Lib.hid ((HFm.out.later (below_alloc1 _ _)).turned ht FX1.out); have hmc := make_any (w3.alloc (.cells #[.int .u8 110, .int .u8 (97 + (i : Int))] 5)) g q1 x1 nt 0 (HF1.out.later (below_alloc1 _ _)).own.at_ FX1.out (by omega); rw [HMK.out] at hmc; have hcw := hnc w3; clear hap ht)
        | (go_at_call 27; refine hmc.mono ?_; rintro e w4 ⟨rfl, q2, ht⟩; have HF2 := Lib.hid ((HF1.out.later (below_alloc1 _ _)).turned ht FX2.out); have c2 := HF2.out.cfg; have c4 := HF2.out.siz; clear hmc ht hcw)
        | fail)
        go_quiet ((go_at_call 18; exact qsame (num_any _ _)))
        go_wp2_with fail
        refine ⟨?_, by simp [intOf]; omega⟩
        first | exact ⟨i + 1, q2, x2, by omega, by go_num, Lib.hid (HF2.out.later (below_drewN' (Below.refl _ _) _)), HG3⟩ | ((repeat apply Exists.intro); exact ⟨⟨i + 1, q2, x2, by omega, by go_num, Lib.hid (HF2.out.later (below_drewN' (Below.refl _ _) _)), HG3⟩, rfl⟩)
      · have hd1 : decide ((i : Int) < (M : Int)) = true := decide_eq_true hiM
        have hd4 : decide (M ≤ i) = false := decide_eq_false (by omega)
        have hd3 : decide (p ≤ T) = false := decide_eq_false (by omega)
        go_wp2_with (first
        | (go_at_call 19; refine hap.mono ?_; rintro e w3 ⟨rfl, q1, ht⟩; have HF1 := Lib.hid ((HFm.out.later (below_alloc1 _ _)).turned ht FX1.out); have hmc := make_any (w3.alloc (.cells #[.int .u8 110, .int .u8 (97 + (i : Int))] 5)) g q1 x1 nt 0 (HF1.out.later (below_alloc1 _ _)).own.at_ FX1.out (by omega); rw [HMK.out] at hmc; have hcw := hnc w3; clear hap ht)
        | (go_at_call 27; refine hmc.mono ?_; rintro e w4 ⟨rfl, q2, ht⟩; have HF2 := Lib.hid ((HF1.out.later (below_alloc1 _ _)).turned ht FX2.out); have c2 := HF2.out.cfg; have c4 := HF2.out.siz; clear hmc ht hcw)
        | fail)
        go_quiet ((go_at_call 18; exact qsame (num_any _ _)))
        go_wp2_with fail
        refine ⟨?_, by simp [intOf]; omega⟩
        first | exact ⟨i + 1, q2, x2, by omega, by go_num, Lib.hid (HF2.out.later (below_drewN' (Below.refl _ _) _)), HG3⟩ | ((repeat apply Exists.intro); exact ⟨⟨i + 1, q2, x2, by omega, by go_num, Lib.hid (HF2.out.later (below_drewN' (Below.refl _ _) _)), HG3⟩, rfl⟩)
      · have hd1 : decide ((i : Int) < (M : Int)) = false := decide_eq_false hiM
        have hd2 : decide ((M : Int) ≤ (i : Int)) = true := decide_eq_true (by omega)
        go_wp2_with (first
        | (go_at_call 19; refine hap.mono ?_; rintro e w3 ⟨rfl, q1, ht⟩; have HF1 := Lib.hid ((HFm.out.later (below_alloc1 _ _)).turned ht FX1.out); have hmc := make_any (w3.alloc (.cells #[.int .u8 110, .int .u8 (97 + (i : Int))] 5)) g q1 x1 nt 0 (HF1.out.later (below_alloc1 _ _)).own.at_ FX1.out (by omega); rw [HMK.out] at hmc; have hcw := hnc w3; clear hap ht)
        | (go_at_call 27; refine hmc.mono ?_; rintro e w4 ⟨rfl, q2, ht⟩; have HF2 := Lib.hid ((HF1.out.later (below_alloc1 _ _)).turned ht FX2.out); have c2 := HF2.out.cfg; have c4 := HF2.out.siz; clear hmc ht hcw)
        | fail)
        go_quiet ((go_at_call 18; exact qsame (num_any _ _)))
        go_wp2_with fail
        refine ⟨?_, by simp [intOf]; omega⟩
        first | exact ⟨i + 1, q2, x2, by omega, by go_num, Lib.hid (HF2.out.later (below_drewN' (Below.refl _ _) _)), HG3⟩ | ((repeat apply Exists.intro); exact ⟨⟨i + 1, q2, x2, by omega, by go_num, Lib.hid (HF2.out.later (below_drewN' (Below.refl _ _) _)), HG3⟩, rfl⟩)
    · have hlt1 : ¬ (i : Int) < 12 := by omega
      have hgm := HGm.out
      rw [show 12 - i = 0 by omega] at hgm
      obtain ⟨n, hn⟩ : ∃ n, x0.mails.length = n := ⟨_, rfl⟩
      have hm1 := mails_any wr g q0 x0 HFm.out.own.at_ HFm.out.fit.small
      rw [hn] at hm1
      have haw := fun W => awake_any HAPP.out W
      cases hx : x0.mails with
      | nil =>
        have hn0 : n = 0 := by rw [← hn, hx]; rfl
        subst hn0
        clear hx hgm hn
        go_wp2_with (first
          | (go_at_call 20; refine hm1.mono ?_; rintro e w5 ⟨A5, c5, rfl, _, hb5⟩; have HB5 := Lib.hid hb5; clear hm1 hb5)
          | (go_at_call 15; refine (haw _).mono ?_; rintro e w13 ⟨rfl, hb13⟩; have HB13 := Lib.hid hb13; clear hb13 haw)
          | fail)
        go_ret
        exact ⟨rfl, below_then HFm.out.own.below (below_then HB5.out HB13.out)⟩
      | cons m1 r =>
        have hn1 : 0 < n := by rw [← hn, hx]; simp
        obtain ⟨k1, k2⟩ := full_end hgm hx
        obtain ⟨mid, hmid⟩ : ∃ mid, m1.id = mid := ⟨_, rfl⟩
        rw [hmid] at k1 k2
        obtain ⟨x1, hx1⟩ : ∃ x1, destroyP x0 mid = (x1, 0) := ⟨(destroyP x0 mid).1, Prod.ext rfl k1⟩
        rw [hx1] at k2
        have fx1 : Fit x1 := by
          have h1 := destroyP_fit HFm.out.fit mid
          rw [hx1] at h1
          exact h1
        obtain ⟨x2, i2, e2, hA⟩ : ∃ x2 i2 e2, appendP headF x1 [1] [] 0 zt = (x2, i2, e2) := ⟨_, _, _, rfl⟩
        have he2 : e2 = 0 := by
          have h1 : fullA z x1 = (x2, i2, e2) := by rw [← append_full, HZT.out, hA]
          have h2 : (fullA z x1).2.2 = 0 := k2
          rw [h1] at h2
          exact h2
        subst he2
        have HX := Lib.hid hx
        have HX1 := Lib.hid hx1
        have FX1 := Lib.hid fx1
        have HA := Lib.hid hA
        have HMID := Lib.hid hmid
        have HN := Lib.hid hn
        have hq0 : ((n : Int) == 0) = false := by simp; omega
        clear hx hgm hn k1 k2 hx1 fx1 hA hmid
        go_wp2_with (first
          | (go_at_call 20; refine hm1.mono ?_; rintro e w5 ⟨A5, c5, rfl, _, hb5⟩; have hf5 := HFm.out.later hb5; have hm2 := mails_any w5 g q0 x0 hf5.own.at_ hf5.fit.small; rw [HN.out] at hm2; have HF5 := Lib.hid hf5; clear hm1 hb5 hf5)
          | (go_at_call 20; refine hm2.mono ?_; rintro e w6 ⟨A6, c6, rfl, hma, hb6⟩; (obtain ⟨ms, hms, hmr, hmp⟩ := hma; have hl1 : ms.length = n := (by rw [← HN.out, ← hms]; simp); obtain ⟨bm_, om, cm, hvm, _, _, hbl, _, hat⟩ := hmr.at_ (by omega); have hA6 : A6 = some ⟨bm_, om, none⟩ := (Value.slice.inj hvm).1; subst hA6; have d0 : w6.cell? ⟨bm_, om, none⟩ = some (.int .i64 mid) := (hat 0 (by omega)).trans (by rw [← HMID.out]; exact one_id (hms.trans HX.out)); have hf6 := HF5.out.later hb6; have hde := destroy_said w6 g q0 x0 mid hf6.own.at_ hf6.fit; rw [HX1.out] at hde; have HF6 := Lib.hid hf6; clear hm2 hb6 hf6 hmr hmp hat hms hvm))
          | (go_at_call 28; refine hde.mono ?_; rintro e w7 ⟨rfl, q7, ht⟩; have hf7 := HF6.out.turned ht FX1.out; have hap := HAPP.out _ g q7 x1 [1] _ [] [] _ [] 0 zt (one_in hf7.own.at_ hf7.fit zt (by omega)); rw [HA.out] at hap; have HF7 := Lib.hid hf7; clear hde ht hf7)
          | (go_at_call 19; refine hap.mono ?_; rintro e w8 ⟨rfl, q8, ht⟩; have HO8 := Lib.hid ((HF7.out.own.later (below_alloc1 _ _)).turned ht); clear hap ht)
          | (go_at_call 18; refine (num_any _ _).mono ?_; rintro e wn ⟨rfl, rfl⟩)
          | (go_at_call 15; refine (haw _).mono ?_; rintro e w13 ⟨rfl, hb13⟩; have HB13 := Lib.hid hb13; clear hb13 haw)
          | fail)
        go_ret
        exact ⟨rfl, below_then HO8.out.below HB13.out⟩

end Go.Proofs.YtmbibhphpjmboaaGreatDoor
