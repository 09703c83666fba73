/-
  The walk of pillarboxlaw21.SeqBack.
-/
import Derived.Test.YtogmdfjgedekgaaDoorBackPlain
import Derived.Test.YtogmdfjgedekgaaDoorSeqAll
namespace Go.Proofs.YtogmdfjgedekgaaDoor
open Go.RowKit Go.Lib
attribute [local go_sem ↓] Go.wp_at_zero Go.wp_at_succ

theorem Tryd.infoInt : (Tryd.prog.info? 3).map (fun i => (i.zero, i.size, i.bytes)) = some (some (.int .i64 0), 1, 8) := by kernel_rfl

theorem intV_snoc (l : List Int) (x : Int) : intV l ++ [.int .i64 x] = intV (l ++ [x]) := by simp [intV]
theorem intV_length (l : List Int) : (intV l).length = l.length := by simp [intV]

/-- What the first loop keeps. -/
structure GSt (w wr : World) (k : Nat) (o : Value) (h : Option Nat) (l : List Int) (nn : Int) : Prop where
  sl : Sl wr 3 1 o h k (intV l)
  bel : Below w.heap.size w wr
  own : ∀ b, h = some b → w.heap.size ≤ b
  len : l.length = k
  ris : Ris l nn
  bnd : nn ≤ 4 * k
theorem GSt.more {w wr w' : World} {k : Nat} {o v' : Value} {h h' : Option Nat} {l : List Int} {nn g : Int} (s : GSt w wr k o h l nn) (hg : 0 ≤ g)
    (hs : Sl w' 3 1 v' h' (k + 1) (intV l ++ [.int .i64 (nn + 1 + g % 4)])) (hc : Chg h.toList wr w') (ho : h' = h ∨ ∃ g, h' = some g ∧ wr.heap.size ≤ g) : GSt w w' (k + 1) v' h' (l ++ [nn + 1 + g % 4]) (nn + 1 + g % 4) := by
  refine ⟨by rw [← intV_snoc]; exact hs, s.bel.trans (hc.below s.bel.size fun i hi => s.own i (by simpa using hi)), ?_, ?_, s.ris.more hg, ?_⟩
  · intro b hb
    have := s.bel.size
    rcases ho with h1 | ⟨q, h1, h2⟩
    · exact s.own b (by rw [← h1]; exact hb)
    · rw [hb] at h1
      injection h1 with h1
      omega
  · have := s.len
    simp
    omega
  · have := s.bnd
    have : g % 4 < 4 := Int.emod_lt_of_pos _ (by omega)
    omega

/-- What the second loop keeps: the numbers ahead of k are below i, the others are not. -/
structure HSt (wm wq : World) (l : List Int) (j : Int) (kk : Nat) : Prop where
  bel : Below wm.heap.size wm wq
  lo : ∀ x ∈ l.take kk, x < j
  hi : ∀ x ∈ l.drop kk, j ≤ x
theorem HSt.hit {wm wq w' : World} {l : List Int} {j : Int} {kk : Nat} (s : HSt wm wq l j kk) (hb : Below wq.heap.size wq w') (hp : l.Pairwise (· < ·)) (hk : kk < l.length) (he : l[kk] = j) : HSt wm w' l (j + 1) (kk + 1) := by
  refine ⟨s.bel.trans (hb.mono s.bel.size), fun x hx => ?_, fun x hx => ?_⟩
  · rw [List.take_succ_eq_append_getElem hk] at hx
    rcases List.mem_append.1 hx with hx | hx
    · have := s.lo x hx
      omega
    · rw [List.mem_singleton.1 hx, he]
      omega
  · have h2 : (l[kk] :: l.drop (kk + 1)).Pairwise (· < ·) := by
      rw [← List.drop_eq_getElem_cons hk]
      exact hp.sublist (List.drop_sublist _ _)
    have := (List.pairwise_cons.1 h2).1 x hx
    omega
theorem HSt.miss {wm wq w' : World} {l : List Int} {j : Int} {kk : Nat} (s : HSt wm wq l j kk) (hb : Below wq.heap.size wq w') (hp : l.Pairwise (· < ·)) (hk : ∀ h : kk < l.length, l[kk] ≠ j) : HSt wm w' l (j + 1) kk := by
  refine ⟨s.bel.trans (hb.mono s.bel.size), fun x hx => by have := s.lo x hx; omega, fun x hx => ?_⟩
  have h1 := s.hi x hx
  by_cases e : x = j
  · subst e
    have hm : x ∈ l := List.mem_of_mem_drop hx
    obtain ⟨h3, h4⟩ := (ris_in hp s.lo s.hi).1 hm
    exact absurd h4 (hk h3)
  · omega

set_option maxRecDepth 100000 in
set_option maxHeartbeats 8000000 in
theorem seqBack_any (v : Value) (gs : List Int) (w : World) (hr : RdS w [] 1 v gs.length (gs.map (Value.int .u8))) (hb : ∀ g ∈ gs, 0 ≤ g ∧ g ≤ 255) (hm : Mx w) (ht : Tens w) :
    Calls Tryd.prog 8 #[v] w fun e w' => e = .returned (.bool true) ∧ Below w.heap.size w w' := by
  obtain ⟨i0, hi, hz0, hz1, hz2⟩ := info_parts Tryd.infoInt
  obtain ⟨m, hmn⟩ : ∃ m, gs.length = m := ⟨_, rfl⟩
  rw [hmn] at hr
  obtain ⟨A, cap, rfl, _, _⟩ := hr.form
  by_cases hgr : m = 0 ∨ 60 < m
  · have hAw := awakeS_any w hm
    clear hr hb ht hm hmn
    rcases hgr with h0 | h0
    · subst h0
      go_enter Tryd.func8, Tryd.ntmps8
      go_wp2_with (first
        | (go_at_call 13; refine hAw.mono ?_; rintro e w5 ⟨rfl, hb⟩; have HB5 := Lib.hid hb; clear hb hAw)
        | fail)
      go_ret
      exact ⟨rfl, HB5.out⟩
    · have h1 : (((m : Nat) : Int) == 0) = false := by rw [beq_eq_false_iff_ne]; omega
      go_enter Tryd.func8, Tryd.ntmps8
      go_wp2_with (first
        | (go_at_call 13; refine hAw.mono ?_; rintro e w5 ⟨rfl, hb⟩; have HB5 := Lib.hid hb; clear hb hAw)
        | fail)
      go_ret
      exact ⟨rfl, HB5.out⟩
  · have hm0 : ¬ m = 0 := fun h => hgr (.inl h)
    have hm60 : m ≤ 60 := by omega
    have h1 : (((m : Nat) : Int) == 0) = false := by rw [beq_eq_false_iff_ne]; omega
    have HR := Lib.hid hr
    have HB := Lib.hid hb
    have HMN := Lib.hid hmn
    have HM := Lib.hid hm
    have HT := Lib.hid ht
    have HM0 := Lib.hid hm0
    clear hr hb hmn hm ht hgr hm0
    go_enter Tryd.func8, Tryd.ntmps8
    go_wp2_with fail
    go_loopw [3, 4, 5] (fun o nv iv wr => ∃ (k : Nat) (h : Option Nat) (l : List Int) (nn : Int), k ≤ m ∧ iv = .int .i64 k ∧ nv = .int .i64 nn ∧ Hid (GSt w wr k o h l nn)) (fun _ _ iv _ => m - (intOf iv).toNat)
    case atStart => exact ⟨0, none, [], 0, Nat.zero_le _, rfl, rfl, Lib.hid ⟨Sl.nil _ _ _, Below.refl _ _, by simp, rfl, Ris.nil, by omega⟩⟩
    case round =>
      obtain ⟨k, h, l, nn, hk, rfl, rfl, HG⟩ := hrel
      by_cases hlt : k < m
      · have hkl : k < gs.length := by rw [HMN.out]; exact hlt
        obtain ⟨ba, offa, ca', hva, _, _, hbla, _, hca⟩ := HR.out.at_ (by omega)
        injection hva with hva1 hva2 hva3
        subst hva1
        clear hva2 hva3
        have d0 : wr.cell? ⟨ba, offa + k, none⟩ = some (.int .u8 gs[k]) := ((HG.out.bel.cell (p := ⟨ba, offa + k, none⟩) hbla).trans (hca _ (by omega))).trans (by simp [hkl])
        obtain ⟨hg0, hg1⟩ := HB.out gs[k] (List.getElem_mem hkl)
        generalize gs[k] = g at d0 hg0 hg1
        have hn0 := HG.out.ris.pos
        have hnb := HG.out.bnd
        have HGM := fun w' v' h' hs hc ho => HG.out.more (w' := w') (v' := v') (h' := h') hg0 hs hc ho
        have HSL := Lib.hid HG.out.sl
        clear hca
        go_wp2_with (at_builtin; refine wpList_append_sl rfl _ _ 45 rfl Tryd.underlying45 hi hz0 hz1 hz2 rfl (by decide) HSL.out rfl 1 1 rfl rfl ?_ ?_ ?_ ?_)
        any_goals (first | (simp [Value.oneCell']; done) | (unfold maxLen; omega) | omega)
        · intro v' h' w' r1 r2 r3
          have HG2 := Lib.hid (HGM w' v' h' (by simpa using r1) r2 r3)
          clear r1 r2 r3 HGM
          go_wp2
          refine ⟨?_, by simp [intOf]; omega⟩
          first | exact ⟨k + 1, _, _, _, by omega, by go_num, rfl, HG2⟩ | ((repeat apply Exists.intro); exact ⟨⟨k + 1, _, _, _, by omega, by go_num, rfl, HG2⟩, rfl⟩)
      · have hkm : k = m := by omega
        subst hkm
        have hnn := HG.out.bnd
        have hn0 := HG.out.ris.pos
        obtain ⟨N, rfl⟩ : ∃ N : Nat, nn = N := ⟨nn.toNat, by omega⟩
        obtain ⟨R, e1, e2, e3⟩ := back_read HG.out.ris (fun e => by have := HG.out.len; rw [e] at this; exact HM0.out this.symm) (by have := HG.out.len; omega) (by omega)
        have hsl := HG.out.sl
        obtain ⟨A3, cap3, rfl, _, _⟩ := hsl.form
        have htx := text_any wr (.slice A3 k cap3) k l HG.out.len (hsl.reads [] (by simp)) (by omega) (fun x hx => by have := HG.out.ris.rng x hx; omega) (HT.out.below HG.out.bel)
        have HRD := Lib.hid (fun W (hW : Mx W) => readV_any (textL l) 0 R 0 W (by omega) (by decide) hW e1)
        have HE3 := Lib.hid e3
        generalize textL l = T at htx HRD e2
        clear e1 e3
        obtain ⟨rl, hrl⟩ : ∃ rl, R.length = rl := ⟨_, rfl⟩
        obtain ⟨wo, rfl⟩ : ∃ wo : World, wo = wr := ⟨_, rfl⟩
        have HSL := Lib.hid hsl
        have HRL := Lib.hid hrl
        clear hsl
        go_wp2_with (first
          | (go_at_call 20; refine htx.mono ?_; rintro e w1 ⟨rfl, hb⟩; have HB1 := Lib.hid hb; clear hb htx)
          | (go_at_call 10; refine (HRD.out _ ((HM.out.below HG.out.bel).below HB1.out)).mono ?_; rintro e w2 ⟨v2, h2, rfl, hs, hb⟩; have HB2 := Lib.hid (HB1.out.trans (hb.mono HB1.out.size)); simp only [hrl] at hs; obtain ⟨A4, cap4, rfl, _, _⟩ := hs.form; have HR2 := Lib.hid (hs.reads [] (by simp)); have HS2 := Lib.hid (HSL.out.below HB2.out); clear hb hs HRD hrl)
          | fail)
        have hNu := fun W => numS_any W 0
        go_loopw [8, 9] (fun kv iv wq => ∃ (j kk : Nat), 1 ≤ j ∧ j ≤ N + 3 ∧ kk ≤ k ∧ iv = .int .i64 j ∧ kv = .int .i64 kk ∧ Hid (HSt w2 wq l j kk)) (fun _ iv _ => N + 3 - (intOf iv).toNat)
        case atStart => exact ⟨1, 0, by omega, by omega, Nat.zero_le _, rfl, rfl, Lib.hid ⟨Below.refl _ _, by simp, fun x hx => by have := HG.out.ris.rng x (by simpa using hx); omega⟩⟩
        case round =>
          obtain ⟨j, kk, hj1, hj3, hkk, rfl, rfl, HH⟩ := hrel
          by_cases hjN : j ≤ N + 2
          · have hin := in_any wr (.slice A4 rl cap4) rl R j HRL.out (HR2.out.below HH.out.bel)
            rw [HE3.out] at hin
            have hris := ris_in HG.out.ris.up HH.out.lo HH.out.hi
            have hlen := HG.out.len
            by_cases hkl : kk < k
            · have hkl2 : kk < l.length := by omega
              obtain ⟨b8, off8, cap8, _, hv8, _, _, hb8, hat⟩ := HS2.out.at_ (by omega)
              injection hv8 with hv81 hv82 hv83
              subst hv81
              clear hv82 hv83
              have d1 : wr.cell? ⟨b8, off8 + kk, none⟩ = some (.int .i64 l[kk]) := ((HH.out.bel.cell (p := ⟨b8, off8 + kk, none⟩) hb8).trans (hat kk (by omega)).1).trans (intV_at l kk hkl2)
              clear hat
              by_cases he : l[kk] = (j : Int)
              · have hd : decide ((j : Int) ∈ l) = true := decide_eq_true (hris.2 ⟨hkl2, he⟩)
                rw [hd] at hin
                have HHN := fun w' hb => Lib.hid (HH.out.hit (w' := w') hb HG.out.ris.up hkl2 he)
                rw [he] at d1
                clear hd hris he hlen
                go_wp2_with (first
                  | (go_at_call 18; refine hin.mono ?_; rintro e w3 ⟨rfl, hb⟩; have HH3 := HHN w3 hb; clear hb hin HHN)
                  | fail)
                refine ⟨?_, by simp [intOf]; omega⟩
                first | exact ⟨j + 1, kk + 1, by omega, by omega, by omega, by go_num, by go_num, HH3⟩ | ((repeat apply Exists.intro); exact ⟨⟨j + 1, kk + 1, by omega, by omega, by omega, by go_num, by go_num, HH3⟩, rfl⟩)
              · have hd : decide ((j : Int) ∈ l) = false := decide_eq_false (fun hm => by obtain ⟨_, h2⟩ := hris.1 hm; exact he h2)
                rw [hd] at hin
                have HHN := fun w' hb => Lib.hid (HH.out.miss (w' := w') hb HG.out.ris.up (fun _ => he))
                have hq : (l[kk] == (j : Int)) = false := by rw [beq_eq_false_iff_ne]; exact he
                generalize l[kk] = y at d1 hq
                clear hd hris he hlen
                go_wp2_with (first
                  | (go_at_call 18; refine hin.mono ?_; rintro e w3 ⟨rfl, hb⟩; have HH3 := HHN w3 hb; clear hb hin HHN)
                  | fail)
                refine ⟨?_, by simp [intOf]; omega⟩
                first | exact ⟨j + 1, kk, by omega, by omega, by omega, by go_num, rfl, HH3⟩ | ((repeat apply Exists.intro); exact ⟨⟨j + 1, kk, by omega, by omega, by omega, by go_num, rfl, HH3⟩, rfl⟩)
            · have hd : decide ((j : Int) ∈ l) = false := decide_eq_false (fun hm => by obtain ⟨h2, _⟩ := hris.1 hm; omega)
              rw [hd] at hin
              have HHN := fun w' hb => Lib.hid (HH.out.miss (w' := w') hb HG.out.ris.up (fun h => by omega))
              clear hd hris hlen
              go_wp2_with (first
                | (go_at_call 18; refine hin.mono ?_; rintro e w3 ⟨rfl, hb⟩; have HH3 := HHN w3 hb; clear hb hin HHN)
                | fail)
              refine ⟨?_, by simp [intOf]; omega⟩
              first | exact ⟨j + 1, kk, by omega, by omega, by omega, by go_num, rfl, HH3⟩ | ((repeat apply Exists.intro); exact ⟨⟨j + 1, kk, by omega, by omega, by omega, by go_num, rfl, HH3⟩, rfl⟩)
          · have hAw := awakeS_any wr (((HM.out.below HG.out.bel).below HB2.out).below HH.out.bel)
            have HBE := Lib.hid ((HG.out.bel.trans (HB2.out.mono HG.out.bel.size)).trans (HH.out.bel.mono (Nat.le_trans HG.out.bel.size HB2.out.size)))
            go_wp2_with (first
              | (go_at_call 11; refine (hNu _).mono ?_; rintro e wn ⟨rfl, rfl⟩)
              | (go_at_call 13; refine hAw.mono ?_; rintro e w5 ⟨rfl, hb⟩; have HB5 := Lib.hid (HBE.out.trans (hb.mono HBE.out.size)); clear hb hAw)
              | fail)
            go_ret
            exact ⟨rfl, HB5.out⟩

end Go.Proofs.YtogmdfjgedekgaaDoor
