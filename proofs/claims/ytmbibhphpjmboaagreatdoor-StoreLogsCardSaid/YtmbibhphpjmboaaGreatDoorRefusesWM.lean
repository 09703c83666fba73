/-
  The walk of pillarboxlaw18.StoreRefuses.
-/
import Derived.Test.YtmbibhphpjmboaaGreatDoorHeavyM
import Derived.Test.YtmbibhphpjmboaaGreatDoorSameMM
import Derived.Test.YtmbibhphpjmboaaGreatDoorGQ
import Derived.Test.YtmbibhphpjmboaaGreatDoorGC
namespace Go.Proofs.YtmbibhphpjmboaaGreatDoor
open Go.Shelf Go.RowKit
attribute [local go_sem ↓] Go.wp_at_zero Go.wp_at_succ

theorem MailsAt.turned {w w' : World} {g : Nat} {q q' : Lies} {x' : Acc} {v : Value} {l : List MailP} (h : MailsAt w (q.own g) v l) (ht : Turned w w' g q x' q') : MailsAt w' (q'.own g) v l := by
  obtain ⟨ms, h1, h2, h3⟩ := h
  have hT : ∀ b, b < w.heap.size → b ∉ q.own g → b ∉ q'.own g := fun b hb hn hm => by
    rcases ht.own b hm with h4 | h4
    · exact hn h4
    · omega
  exact ⟨ms, h1, h2.keep ht.chg.size ht.chg.block hT, fun m hm => (h3 m hm).keep ht.chg.size ht.chg.block hT⟩
theorem MailsAt.below {w w' : World} {S : List Nat} {v : Value} {l : List MailP} (h : MailsAt w S v l) (hb : Below w.heap.size w w') : MailsAt w' S v l := by
  obtain ⟨ms, h1, h2, h3⟩ := h
  exact ⟨ms, h1, h2.below hb, fun m hm => (h3 m hm).keep hb.size (fun b hb2 _ => hb.block b hb2) (fun _ _ h => h)⟩
theorem Fit.smallR {x : Acc} (h : Fit x) : SmallM x := by
  have h1 := h.nm
  have h2 := h.clock
  have h3 := h.cfg.mod
  exact ⟨by omega, fun m hm => ⟨by have := (h.mail m hm).keys; omega, by have := h.nmem hm; omega⟩⟩
theorem Fit.nbox {x : Acc} (hf : Fit x) : x.boxes.length ≤ 1099511627776 := by
  have := hf.nb
  have := hf.clock
  have := hf.cfg.mod
  omega
theorem OwnStore.from2 {w w1 wr : World} {g : Nat} {q : Lies} {x : Acc} (h : OwnStore w1 wr g q x) (hb : Below w.heap.size w w1) : OwnStore w wr g q x := ⟨h.at_, below_then hb h.below, fun k hk => Nat.le_trans hb.size (h.own k hk)⟩

/-- An act of the list, ready to be done. -/
theorem actIn {w W : World} {g : Nat} {q : Lies} {x : Acc} {l : List ActM} {a : ActM} (hst : StoreAt W g q x) (hf : Fit x) (ha : ∀ a ∈ l, ActR w a) (hv : heavyL (l.map (·.p)) = false) (hm : a ∈ l) (hb : Below w.heap.size w W) :
    AppIn W g q x a.p.boxes a.vb [] a.p.keys a.vk [] a.p.name := by
  obtain ⟨h1, h2⟩ := heavyL_no hv
  obtain ⟨a1, a2, a3, a4⟩ := h2 a.p (List.mem_map_of_mem hm)
  obtain ⟨r1, r2⟩ := ha a hm
  exact ⟨hst, hf, r1.below hb, by omega, r2.below hb, by omega, fun s hs => Nat.le_trans (a4 s hs) (by decide), by omega⟩

set_option maxRecDepth 100000 in
set_option maxHeartbeats 8000000 in
theorem storeRefuses_any (happ : AppendOk) (hplc : PlaceOk) (a b c d e : Nat) (la : a ≤ 255) (lb : b ≤ 255) (lc : c ≤ 255) (ld : d ≤ 255) (le : e ≤ 255) (v : Value) (l : List ActM) (w : World) (hr : RdS w [] 6 v l.length (flatG encAct l)) (ha : ∀ a ∈ l, ActR w a) :
    Calls Tryz.prog 9 #[.int .u8 a, .int .u8 b, .int .u8 c, .int .u8 d, .int .u8 e, v] w fun e' w' => e' = .returned (.bool true) ∧ Below w.heap.size w w' := by
  have hh := heavy_any v l w hr ha
  obtain ⟨A, cap, hv, hnc, hcm⟩ := hr.form
  subst hv
  cases hhv : heavyL (l.map (·.p)) with
  | true =>
    rw [hhv] at hh
    have haw := fun W => awake_any happ W
    clear hr ha hhv happ hplc
    generalize l.length = n at hh hnc ⊢
    go_enter Tryz.func9, Tryz.ntmps9
    go_wp2_with (first
      | (go_at_call 33; refine hh.mono ?_; rintro e1 w1 ⟨rfl, hb1⟩; have HB1 := Lib.hid hb1; clear hh hb1)
      | (go_at_call 15; refine (haw _).mono ?_; rintro e5 w5 ⟨rfl, hb⟩; have HB5 := Lib.hid (below_then HB1.out hb); clear hb haw)
      | fail)
    go_ret
    exact ⟨rfl, HB5.out⟩
  | false =>
    rw [hhv] at hh
    obtain ⟨n, hnn⟩ : ∃ n, l.length = n := ⟨_, rfl⟩
    have hn60 : n ≤ 60 := by
      have h1 := (heavyL_no hhv).1
      rw [List.length_map, hnn] at h1
      exact h1
    have hcf := fun W => config_any a b c d e la lb lc ld le W
    obtain ⟨m1, hm1⟩ : ∃ m1 : Int, (1 : Int) + ((a % 20 : Nat) : Int) = m1 := ⟨_, rfl⟩
    obtain ⟨m2, hm2⟩ : ∃ m2 : Int, (1 : Int) + ((b % 8 : Nat) : Int) = m2 := ⟨_, rfl⟩
    obtain ⟨m4, hm4⟩ : ∃ m4 : Int, (1 : Int) + ((c % 40 : Nat) : Int) = m4 := ⟨_, rfl⟩
    obtain ⟨m5, hm5⟩ : ∃ m5 : Int, (2 : Int) + (d : Int) = m5 := ⟨_, rfl⟩
    obtain ⟨m6, hm6⟩ : ∃ m6 : Int, (1 : Int) + (e : Int) = m6 := ⟨_, rfl⟩
    have hN := fun W => newA_any m1 m2 4000 m4 m5 m6 50 (by unfold lim; omega) (by unfold lim; omega) (by unfold lim; omega) (by unfold lim; omega) (by unfold lim; omega) (by unfold lim; omega) (by unfold lim; omega) W
    have hok : CfgOk (cfgN m1 m2 4000 m4 m5 m6 50) := by
      constructor <;> (simp only [cfgN]; omega)
    rw [hm1, hm2, hm4, hm5, hm6] at hcf
    have HR := Lib.hid hr
    have HA := Lib.hid ha
    have HV := Lib.hid hhv
    have HNN := Lib.hid hnn
    have HAPP := Lib.hid happ
    have HPLC := Lib.hid hplc
    have HFIT := Lib.hid (newP_fit hok)
    rw [hnn] at hh
    rw [hnn]
    clear hr ha hhv hnn happ hplc hok hm1 hm2 hm4 hm5 hm6 hnc
    go_enter Tryz.func9, Tryz.ntmps9
    go_wp2_with (first
      | (go_at_call 33; refine hh.mono ?_; rintro e1 w1 ⟨rfl, hb1⟩; have HB1 := Lib.hid hb1; clear hh hb1)
      | (go_at_call 34; refine (hcf _).mono ?_; rintro e1 w2 ⟨rfl, hb2⟩; have HB2 := Lib.hid (below_then HB1.out hb2); clear hcf hb2)
      | (go_at_call 16; refine (hN _).mono ?_; rintro e1 w3 ⟨g, q, rfl, ho⟩; have HO := Lib.hid (ho.from2 HB2.out); clear hN ho)
      | (go_at_call 18; refine (num_any _ _).mono ?_; rintro e1 wn ⟨rfl, rfl⟩)
      | fail)
    go_loopw [15] (fun iv wr => ∃ (k : Nat) (q : Lies) (x : Acc), k ≤ n ∧ iv = .int .i64 k ∧ Hid (OwnStore w wr g q x) ∧ Hid (Fit x)) (fun iv _ => n - (intOf iv).toNat)
    case atStart => exact ⟨0, q, _, Nat.zero_le _, rfl, HO, HFIT⟩
    case round =>
      obtain ⟨k, q, x, hk, rfl, HU, HF⟩ := hrel
      by_cases hlt : k < n
      · have hltz : (k : Int) < (n : Int) := by omega
        have hkl : k < l.length := by rw [HNN.out]; exact hlt
        have hk0 : (0 : Int) ≤ (k : Int) := by omega
        have hkw : IntKind.i64.wrap ((k : Int) + 1) = (k : Int) + 1 := IntWalk.i64_in _ (by omega)
        obtain ⟨am, hak⟩ : ∃ am, l[k] = am := ⟨_, rfl⟩
        have ham : am ∈ l := hak ▸ List.getElem_mem hkl
        obtain ⟨b1, o1, c1', hv1, _, _, hl1, _, hat1⟩ := HR.out.at_ (by omega)
        have e1 := (Value.slice.inj hv1).1
        subst e1
        have hcell : ∀ W, Below w.heap.size w W → ∀ j, j < 6 → W.cell? ⟨b1, o1 + k * 6 + j, none⟩ = (encAct am)[j]? := fun W hb j hj => by
          rw [Nat.add_assoc]
          refine (hb.cell hl1).trans ((hat1 (k * 6 + j) (by omega)).trans ?_)
          rw [flatG_get encAct_length l k j hkl hj, hak]
        have hdo : ∀ W, Below w.heap.size w W → StoreAt W g q x → Calls Tryz.prog 35 #[.pointer (some ⟨g, 0, none⟩), .agg #[.int .i64 am.p.op, .int .i64 am.p.id, .int .i64 am.p.at_, .string ⟨am.p.name.toArray⟩, am.vb, am.vk]] W (ErrOut W g q (doP x am.p)) := fun W hb hst =>
          doOne_any HAPP.out HPLC.out W g q x am.p.op am.p.id am.p.at_ am.p.name am.p.boxes am.p.keys am.vb am.vk [] [] (actIn hst HF.out HA.out HV.out ham hb)
        have hfx := doP_fit HF.out am.p
        have hstep := doP_step x am.p
        obtain ⟨⟨op, id, at_, nm, bs, ks⟩, vb, vk⟩ := am
        simp only at hdo
        have hcx := clock_any g x.clock wr HU.out.at_.cell9
        have hbx1 := boxes_any wr g q x HU.out.at_ HF.out.nbox
        have hcl := HF.out.clock
        have hmo := HF.out.cfg.mod
        have HCELL := Lib.hid hcell
        have HDO := Lib.hid hdo
        obtain ⟨⟨x', er⟩, hdx⟩ : ∃ r, doP x ⟨op, id, at_, nm, bs, ks⟩ = r := ⟨_, rfl⟩
        rw [hdx] at HDO hfx hstep
        simp only at hfx hstep
        have HFX := Lib.hid hfx
        obtain ⟨cl, hclk⟩ : ∃ cl, x.clock = cl := ⟨_, rfl⟩
        rw [hclk] at hcx hcl
        have hclb : IntKind.i64.wrap (cl + 1) = cl + 1 := IntWalk.i64_in _ (by omega)
        have hn1 : (cl + 1 != cl) = true := by simp; omega
        have hn2 : (cl + 1 == cl) = false := by simp; omega
        clear hcell hdo hat1 hv1 hak ham hdx hfx hl1
        rcases hstep with hx | ⟨he0, hcl2⟩
        · subst hx
          have hck : ∀ W q2, StoreAt W g q2 x' → Calls Tryz.prog 26 #[.pointer (some ⟨g, 0, none⟩)] W fun e w' => e = .returned (.int .i64 cl) ∧ W = w' := fun W q2 h => by
            have h1 := clock_any g x'.clock W h.cell9
            rw [hclk] at h1
            exact h1
          have HCK := Lib.hid hck
          have herr : (er != 0) = true ∨ (er != 0) = false := by cases (er != 0) <;> simp
          clear hck hclk hcl hmo
          obtain ⟨eb, heb⟩ : ∃ eb, (er != 0) = eb := ⟨_, rfl⟩
          cases eb
          all_goals
            go_wp2_with (first
              | (go_at_call 26; (with_reducible refine hcx.mono ?_); rintro e1 wn ⟨rfl, rfl⟩; clear hcx)
              | (go_at_call 25; (with_reducible refine hbx1.mono ?_); rintro e1 w6 ⟨v6, h6, rfl, hs6, ho6, hb6⟩; have o6 := HU.out.later hb6; obtain ⟨A6, c6, rfl, _, _⟩ := hs6.form; have hm6 := mails_any w6 g q x' o6.at_ HF.out.smallR; have HO6 := Lib.hid o6; have HS6 := Lib.hid hs6; have HN6 : Hid (∀ b, h6 = some b → b ∉ q.own g) := Lib.hid (fun b hb hm => by have t1 := ho6 b hb; have t2 := HU.out.at_.lt b hm; omega); clear hbx1 hs6 ho6 hb6 o6)
              | (go_at_call 20; (with_reducible refine hm6.mono ?_); rintro e1 w7 ⟨A7, c7, rfl, hma7, hb7⟩; have o7 := HO6.out.later hb7; have hdo7 := HDO.out w7 o7.below o7.at_; have HO7 := Lib.hid o7; have HS7 := Lib.hid (HS6.out.keep (fun b hb => hb7.block b (HS6.out.lt b hb))); have HM7 := Lib.hid hma7; have z0 : w7.cell? ⟨b1, o1 + k * 6, none⟩ = some (.int .i64 op) := HCELL.out w7 o7.below 0 (by omega); have z1 : w7.cell? ⟨b1, o1 + k * 6 + 1, none⟩ = some (.int .i64 id) := HCELL.out w7 o7.below 1 (by omega); have z2 : w7.cell? ⟨b1, o1 + k * 6 + 2, none⟩ = some (.int .i64 at_) := HCELL.out w7 o7.below 2 (by omega); have z3 : w7.cell? ⟨b1, o1 + k * 6 + 3, none⟩ = some (.string ⟨nm.toArray⟩) := HCELL.out w7 o7.below 3 (by omega); have z4 : w7.cell? ⟨b1, o1 + k * 6 + 4, none⟩ = some vb := HCELL.out w7 o7.below 4 (by omega); have z5 : w7.cell? ⟨b1, o1 + k * 6 + 5, none⟩ = some vk := HCELL.out w7 o7.below 5 (by omega); clear hm6 hma7 hb7 o7)
              | (go_at_call 35; (with_reducible refine hdo7.mono ?_); rintro e1 w8 ⟨rfl, q8, ht8⟩; have o8 := HO7.out.turned ht8; have hc8 := HCK.out w8 q8 o8.at_; have hbx2 := boxes_any w8 g q8 x' o8.at_ HF.out.nbox; have HO8 := Lib.hid o8; have HS8 := Lib.hid (HS7.out.chg ht8.chg HN6.out); have HM8 := Lib.hid (HM7.out.turned ht8); clear hdo7 ht8 o8 z0 z1 z2 z3 z4 z5)
              | (go_at_call 26; (with_reducible refine hc8.mono ?_); rintro e1 wn ⟨rfl, rfl⟩)
              | (go_at_call 25; (with_reducible refine hbx2.mono ?_); rintro e1 w9 ⟨v9, h9, rfl, hs9, _, hb9⟩; obtain ⟨A9, c9, rfl, _, _⟩ := hs9.form; have hsm := sameB_any _ _ [] [] x'.boxes w9 (hs9.reads [] (by simp)) ((HS8.out.keep (fun b hb => hb9.block b (HS8.out.lt b hb))).reads [] (by simp)) HF.out.nbox; have HO9 := Lib.hid (HO8.out.later hb9); have HM9 := Lib.hid (HM8.out.below hb9); clear hbx2 hs9 hb9 hc8)
              | (go_at_call 32; refine hsm.mono ?_; rintro e1 w10 ⟨rfl, hb10⟩; have o10 := HO9.out.later hb10; have hm10 := mails_any w10 g q8 x' o10.at_ HF.out.smallR; have HO10 := Lib.hid o10; have HM10 := Lib.hid (HM9.out.below hb10); clear hsm hb10 o10)
              | (go_at_call 20; (with_reducible refine hm10.mono ?_); rintro e1 w11 ⟨A11, c11, rfl, hma11, hb11⟩; have hsmm := sameM_any _ _ _ _ x'.mails w11 hma11 (HM10.out.below hb11) HF.out.smallR.1 HF.out.smallR.2; have HO11 := Lib.hid (HO10.out.later hb11); clear hm10 hma11 hb11)
              | (go_at_call 36; refine hsmm.mono ?_; rintro e1 w12 ⟨rfl, hb12⟩; have HO12 := Lib.hid (HO11.out.later hb12); clear hsmm hb12)
              | fail)
            refine ⟨?_, by simp [intOf]; omega⟩
            first | exact ⟨k + 1, q8, x', by omega, by go_num, HO12, HF⟩ | ((repeat apply Exists.intro); exact ⟨⟨k + 1, q8, x', by omega, by go_num, HO12, HF⟩, rfl⟩)
        · subst he0
          have hck : ∀ W q2, StoreAt W g q2 x' → Calls Tryz.prog 26 #[.pointer (some ⟨g, 0, none⟩)] W fun e w' => e = .returned (.int .i64 (cl + 1)) ∧ W = w' := fun W q2 h => by
            have h1 := clock_any g x'.clock W h.cell9
            rw [hcl2, hclk] at h1
            exact h1
          have HCK := Lib.hid hck
          clear hck hclk hcl hmo hcl2
          go_wp2_with (first
            | (go_at_call 26; (with_reducible refine hcx.mono ?_); rintro e1 wn ⟨rfl, rfl⟩; clear hcx)
            | (go_at_call 25; (with_reducible refine hbx1.mono ?_); rintro e1 w6 ⟨v6, h6, rfl, hs6, ho6, hb6⟩; have o6 := HU.out.later hb6; obtain ⟨A6, c6, rfl, _, _⟩ := hs6.form; have hm6 := mails_any w6 g q x o6.at_ HF.out.smallR; have HO6 := Lib.hid o6; clear hbx1 hs6 ho6 hb6 o6)
            | (go_at_call 20; (with_reducible refine hm6.mono ?_); rintro e1 w7 ⟨A7, c7, rfl, hma7, hb7⟩; have o7 := HO6.out.later hb7; have hdo7 := HDO.out w7 o7.below o7.at_; have HO7 := Lib.hid o7; have z0 : w7.cell? ⟨b1, o1 + k * 6, none⟩ = some (.int .i64 op) := HCELL.out w7 o7.below 0 (by omega); have z1 : w7.cell? ⟨b1, o1 + k * 6 + 1, none⟩ = some (.int .i64 id) := HCELL.out w7 o7.below 1 (by omega); have z2 : w7.cell? ⟨b1, o1 + k * 6 + 2, none⟩ = some (.int .i64 at_) := HCELL.out w7 o7.below 2 (by omega); have z3 : w7.cell? ⟨b1, o1 + k * 6 + 3, none⟩ = some (.string ⟨nm.toArray⟩) := HCELL.out w7 o7.below 3 (by omega); have z4 : w7.cell? ⟨b1, o1 + k * 6 + 4, none⟩ = some vb := HCELL.out w7 o7.below 4 (by omega); have z5 : w7.cell? ⟨b1, o1 + k * 6 + 5, none⟩ = some vk := HCELL.out w7 o7.below 5 (by omega); clear hm6 hma7 hb7 o7)
            | (go_at_call 35; (with_reducible refine hdo7.mono ?_); rintro e1 w8 ⟨rfl, q8, ht8⟩; have o8 := HO7.out.turned ht8; have hc8 := HCK.out w8 q8 o8.at_; have HO8 := Lib.hid o8; clear hdo7 ht8 o8 z0 z1 z2 z3 z4 z5)
            | (go_at_call 26; (with_reducible refine hc8.mono ?_); rintro e1 wn ⟨rfl, rfl⟩)
            | fail)
          refine ⟨?_, by simp [intOf]; omega⟩
          first | exact ⟨k + 1, q8, x', by omega, by go_num, HO8, HFX⟩ | ((repeat apply Exists.intro); exact ⟨⟨k + 1, q8, x', by omega, by go_num, HO8, HFX⟩, rfl⟩)
      · have hltz : ¬ (k : Int) < (n : Int) := by omega
        have haw := fun W => awake_any HAPP.out W
        go_wp2_with (first
          | (go_at_call 15; refine (haw _).mono ?_; rintro e1 w13 ⟨rfl, hb13⟩; have HB13 := Lib.hid hb13; clear hb13 haw)
          | fail)
        go_ret
        exact ⟨rfl, below_then HU.out.below HB13.out⟩

end Go.Proofs.YtmbibhphpjmboaaGreatDoor
