/-
  The walk of pillarboxlaw18.StoreSeen.
-/
import Derived.Test.YtmbibhphpjmboaaGreatDoorGM
import Derived.Test.YtmbibhphpjmboaaGreatDoorGF
import Derived.Test.YtmbibhphpjmboaaGreatDoorGK
import Derived.Test.YtmbibhphpjmboaaGreatDoorKeysIns1M
import Derived.Test.YtmbibhphpjmboaaGreatDoorBoxesPlainM
namespace Go.Proofs.YtmbibhphpjmboaaGreatDoor
open Go.Shelf Go.RowKit
attribute [local go_sem ↓] Go.wp_at_zero Go.wp_at_succ

theorem Fit.small {x : Acc} (h : Fit x) : SmallM x := by
  have h1 := h.nm
  have h2 := h.clock
  have h3 := h.cfg.mod
  exact ⟨by omega, fun m hm => ⟨by have := (h.mail m hm).keys; omega, by have := h.nmem hm; omega⟩⟩

/-- The clock of the one email there is. -/
theorem one_mod {ms : List MailM} {m1 : MailP} {cl : Int} (h : ms.map (·.p) = [m1]) (hm : m1.mod = cl) : (flatG encM ms)[6]? = some (.int .i64 cl) := by
  match ms, h with
  | [m], h =>
    simp only [List.map_cons, List.map_nil, List.cons.injEq, and_true] at h
    rw [← hm, ← h]
    rfl
def seenIn (seen other : Bool) : Texts := [97] :: ((if seen then [[36, 115, 101, 101, 110]] else []) ++ if other then [[98], [98]] else [])
theorem keysF_a : keysF [[97]] = ([[97]], 0) := by
  rw [keysF_ins]
  decide
theorem keysF_seen : ∀ seen other : Bool, keysF (seenIn seen other) = (seenK seen other, 0) := by
  intro seen other
  rw [keysF_ins]
  cases seen <;> cases other <;> decide
theorem seenIn_short (seen other : Bool) : Short (seenIn seen other) := by
  intro s hs
  unfold seenIn at hs
  cases seen <;> cases other <;> simp at hs <;> rcases hs with rfl | rfl | rfl <;> simp
/-- Just laid. -/
theorem new_strs (w : World) (ss : Texts) : Sl (w.alloc (.cells (ss.map encStr).toArray 9)) 9 1 (.slice (some ⟨w.heap.size, 0, none⟩) ss.length ss.length) (some w.heap.size) ss.length (ss.map encStr) ∨ maxLen < ss.length := by
  by_cases h : ss.length ≤ maxLen
  · exact .inl ⟨by simp, .inr ⟨w.heap.size, 0, ss.length, _, rfl, rfl, Blk.new _ _ _, Nat.le_refl _, h, by simp, by simpa using List.take_of_length_le (by simp)⟩⟩
  · exact .inr (by omega)
theorem Try.infoStr2 : (Tryz.prog.info? 9).map (fun i => (i.zero, i.size, i.bytes)) = some (some (.string ⟨#[]⟩), 1, 16) := by kernel_rfl
/-- Mailbox 1 alone, the keyword a alone, just laid. -/
theorem seen_in {w : World} {g : Nat} {q : Lies} {x : Acc} (h : StoreAt w g q x) (hf : Fit x) : AppIn ((w.alloc (.cells #[.int .i64 1] 3)).alloc (.cells #[.string ⟨#[97]⟩] 9)) g q x [1] (.slice (some ⟨w.heap.size, 0, none⟩) 1 1) [] [[97]] (.slice (some ⟨w.heap.size + 1, 0, none⟩) 1 1) [] [120] := by
  refine ⟨(h.alloc _).alloc _, hf, ((one_sl w).alloc _).reads [] (by simp), by decide, ?_, by decide, fun s hs => by simp at hs; rw [hs]; decide, by decide⟩
  rcases new_strs (w.alloc (.cells #[.int .i64 1] 3)) [[97]] with h1 | h1
  · rw [World.size_alloc] at h1
    exact h1.reads [] (by simp)
  · exact absurd h1 (by unfold maxLen; decide)
/-- The law's own list of keywords. -/
structure KRel (w4 wx : World) (ks : Texts) (v : Value) : Prop where
  below : Below w4.heap.size w4 wx
  out : ∃ h, Sl wx 9 1 v h ks.length (ks.map encStr) ∧ ∀ b, h = some b → w4.heap.size ≤ b
theorem KRel.app {w4 w5 wx W : World} {ks more : Texts} {v' : Value} {h h' : Option Nat} {n : Nat} (hb : Below w4.heap.size w4 w5) (hf : ∀ b, h = some b → w4.heap.size ≤ b) (hbx : Below w5.heap.size w5 wx) (hs : Sl W 9 1 v' h' n (ks.map encStr ++ more.map encStr)) (hn : n = (ks ++ more).length) (hc : Chg h.toList wx W) (ho : h' = h ∨ ∃ g, h' = some g ∧ wx.heap.size ≤ g) : KRel w4 W (ks ++ more) v' := by
  have hbb := below_then hb hbx
  subst hn
  refine ⟨hbb.trans (hc.below hbb.size (fun k hk => hf k (by simpa using hk))), h', by rw [List.map_append]; exact hs, fun b hb2 => ?_⟩
  rcases ho with h1 | ⟨g, h1, h2⟩
  · exact hf b (by rw [← h1]; exact hb2)
  · rw [h1] at hb2
    injection hb2 with hb2
    have := hbb.size
    omega

/-- .. laid behind what is not the law's. -/
theorem OwnStore.from_ {w w1 wr : World} {g : Nat} {q : Lies} {x : Acc} (h : OwnStore w1 wr g q x) (hb : Below w.heap.size w w1) : OwnStore w wr g q x := ⟨h.at_, below_then hb h.below, fun k hk => Nat.le_trans hb.size (h.own k hk)⟩
/-- An account of the law's own abides changes of blocks that are younger than it. -/
theorem OwnStore.chg4 {w w4 w5 W : World} {g : Nat} {q : Lies} {x : Acc} {S : List Nat} (_ : OwnStore w w5 g q x) (hb : Below w4.heap.size w4 w5) (hc : Chg S w5 W) (hS : ∀ k ∈ S, w4.heap.size ≤ k) (h4 : OwnStore w w4 g q x) : OwnStore w W g q x := by
  have h5 : Below w4.heap.size w4 W := hb.trans (hc.below hb.size hS)
  exact h4.later h5

set_option maxRecDepth 100000 in
set_option maxHeartbeats 4000000 in
theorem storeSeen_any (happ : AppendOk) (seen other again : Bool) (w : World) : Calls Tryz.prog 5 #[.bool seen, .bool other, .bool again] w fun e w' => e = .returned (.bool true) ∧ Below w.heap.size w w' := by
  obtain ⟨i0, hi, hz0, hz1, hz2⟩ := info_parts Try.infoStr2
  have hW := wide_any w
  have hN := fun W => newA_any 1000 100 1048576 1073741824 1073741824 10000 200 (by unfold lim; omega) (by unfold lim; omega) (by unfold lim; omega) (by unfold lim; omega) (by unfold lim; omega) (by unfold lim; omega) (by unfold lim; omega) W
  have hfit : Fit (newP wideP) := newP_fit wideP_ok
  have hA : appendP headF (newP wideP) [1] [[97]] 0 [120] = (s1, 1, 0) := by
    unfold appendP
    rw [keysF_a]
    have h1 := seen_append
    unfold s1
    rw [Prod.ext_iff]
    exact ⟨rfl, h1⟩
  have hf1 : Fit s1 := by
    have h1 := appendP_fit headF hfit [1] [[97]] 0 [120] (by rw [keysF_a]; decide)
    rw [hA] at h1
    exact h1
  have hk2 : keysP s1 1 (seenIn seen other) = (s2 seen other, 0) := by
    unfold keysP
    rw [keysF_seen, Prod.ext_iff]
    exact ⟨rfl, (seen_keys seen other).1⟩
  have hf2 : Fit (s2 seen other) := by
    have h1 := keysP_fit hf1 1 (seenIn seen other) (keysF_le _)
    rw [hk2] at h1
    exact h1
  obtain ⟨_, hcl, hmm, hbb, hk3, hc3, hm3, hb3⟩ := seen_keys seen other
  have hk3' : keysP (s2 seen other) 1 (seenIn seen other) = ((keysK (s2 seen other) 1 (seenK seen other, 0)).1, 0) := by
    unfold keysP
    rw [keysF_seen, Prod.ext_iff]
    exact ⟨rfl, hk3⟩
  have hf3 : Fit (keysK (s2 seen other) 1 (seenK seen other, 0)).1 := by
    have h1 := keysP_fit hf2 1 (seenIn seen other) (keysF_le _)
    rw [hk3'] at h1
    exact h1
  generalize keysK (s2 seen other) 1 (seenK seen other, 0) = r3 at hk3 hc3 hm3 hb3 hk3' hf3
  obtain ⟨x3, e3⟩ := r3
  simp only at hk3 hc3 hm3 hb3 hk3' hf3
  generalize s2 seen other = x2 at hk2 hf2 hcl hmm hbb hc3 hm3 hb3 hk3'
  obtain ⟨so, hso⟩ : ∃ so, (seen || other) = so := ⟨_, rfl⟩
  rw [hso] at hcl hmm
  obtain ⟨cl, hclv⟩ : ∃ cl : Int, (if so = true then (3 : Int) else 2) = cl := ⟨_, rfl⟩
  obtain ⟨bm, hbmv⟩ : ∃ bm : Int, (if seen = true then (3 : Int) else 2) = bm := ⟨_, rfl⟩
  rw [hclv] at hcl hmm
  rw [hbmv] at hbb
  generalize s1 = x1 at hA hf1 hk2
  have HAPP := Lib.hid happ
  have HFIT := Lib.hid hfit
  have HA := Lib.hid hA
  have HF1 := Lib.hid hf1
  have HK2 := Lib.hid hk2
  have HF2 := Lib.hid hf2
  have HF3 := Lib.hid hf3
  have HK3 := Lib.hid hk3'
  have HCL := Lib.hid hcl
  have HMM := Lib.hid hmm
  have HBB := Lib.hid hbb
  have HC3 := Lib.hid hc3
  have HM3 := Lib.hid hm3
  have HB3 := Lib.hid hb3
  have HCLV := Lib.hid hclv
  have HBMV := Lib.hid hbmv
  have HSO := Lib.hid hso
  clear happ hfit hA hf1 hk2 hf2 hf3 hk3 hk3' hcl hmm hbb hc3 hm3 hb3 hclv hbmv hso
  go_enter Tryz.func5, Tryz.ntmps5
  go_upto_if 33 with (first
    | (go_at_call 17; refine hW.mono ?_; rintro e w1 ⟨rfl, hb1⟩; have HB1 := Lib.hid hb1; clear hW hb1)
    | (go_at_call 16; refine (hN _).mono ?_; rintro e w2 ⟨g, q, rfl, ho⟩; have hap := HAPP.out _ g q _ [1] (.slice (some ⟨w2.heap.size, 0, none⟩) 1 1) [] [[97]] (.slice (some ⟨w2.heap.size + 1, 0, none⟩) 1 1) [] 0 [120] (seen_in ho.at_ HFIT.out); rw [show newP (cfgN 1000 100 1048576 1073741824 1073741824 10000 200) = newP wideP from rfl, HA.out] at hap; have HO := Lib.hid (OwnStore.from_ ho HB1.out); clear hN ho)
    | (go_at_call 18; refine (num_any _ _).mono ?_; rintro e wn ⟨rfl, rfl⟩)
    | (go_at_call 19; refine hap.mono ?_; rintro e w4 ⟨rfl, q4, ht4⟩; have HO4 := Lib.hid ((HO.out.later (below_then (below_alloc1 _ _) (below_alloc1 _ _))).turned ht4); clear hap ht4)
    | fail)
  obtain ⟨w5, hw5⟩ : ∃ w5 : World, w5 = w4.alloc (.cells #[.string ⟨#[97]⟩] 9) := ⟨_, rfl⟩
  rw [← hw5]
  have hk0 : KRel w4 w5 [[97]] (.slice (some ⟨w4.heap.size, 0, none⟩) 1 1) := by
    rw [hw5]
    rcases new_strs w4 [[97]] with h1 | h1
    · exact ⟨below_alloc1 _ _, some w4.heap.size, h1, fun b hb => by injection hb with hb; omega⟩
    · exact absurd h1 (by unfold maxLen; decide)
  have HO5 : Hid (OwnStore w w5 g q4 x1) := Lib.hid (by rw [hw5]; exact HO4.out.later (below_alloc1 _ _))
  have HK0 := Lib.hid hk0
  have HB5 : Hid (Below w4.heap.size w4 w5) := Lib.hid hk0.below
  clear hk0 hw5
  go_cut [9] (fun v wx => ∃ (A : Option Addr) (n c : Nat) (h : Option Nat) (ks : Texts), v = .slice A n c ∧ n ≤ 2 ∧ Hid (ks = [97] :: (if seen then [[36, 115, 101, 101, 110]] else [])) ∧ Hid (n = ks.length) ∧ Hid (Below w4.heap.size w4 wx) ∧ Hid (Sl wx 9 1 (.slice A n c) h n (ks.map encStr)) ∧ Hid (∀ b, h = some b → w4.heap.size ≤ b) ∧ Hid (OwnStore w wx g q4 x1))
  case first =>
    obtain ⟨h0, hs0, hf0⟩ := HK0.out.out
    have HS0 := Lib.hid hs0
    have HF0 := Lib.hid hf0
    clear hs0 hf0
    cases seen with
    | false =>
      go_wp2_with fail
      go_meet
      exact ⟨_, 1, _, h0, [[97]], rfl, by omega, Lib.hid rfl, Lib.hid rfl, HB5, HS0, HF0, HO5⟩
    | true =>
      go_wp2_with (first
        | (at_builtin; refine wpList_append_sl rfl _ _ 37 rfl Tryz.underlying37 hi hz0 hz1 hz2 rfl (by decide) HS0.out rfl 1 1 rfl rfl ?_ ?_ ?_ ?_)
        | fail)
      any_goals (first | (simp [Value.oneCell']; done) | (unfold maxLen; decide) | decide)
      intro v2 h2 w7 hs7 hc7 ho7
      obtain ⟨A7, c7, rfl, _, _⟩ := hs7.form
      have HKA := Lib.hid (KRel.app (ks := [[97]]) (more := [[36, 115, 101, 101, 110]]) (Below.refl _ w4) (fun b hb => HF0.out b hb) HB5.out hs7 rfl hc7 ho7)
      have HS7 := Lib.hid hs7
      have HO7 : Hid (OwnStore w w7 g q4 x1) := Lib.hid (HO5.out.chg4 HB5.out hc7 (fun k hk => HF0.out k (by simpa using hk)) HO4.out)
      have HF7 : Hid (∀ b, h2 = some b → w4.heap.size ≤ b) := Lib.hid (fun b hb => by
        rcases ho7 with h1 | ⟨g2, h1, h3⟩
        · exact HF0.out b (by rw [← h1]; exact hb)
        · rw [h1] at hb
          injection hb with hb
          have := HB5.out.size
          omega)
      clear hs7 hc7 ho7
      go_wp2_with fail
      go_meet
      exact ⟨A7, 2, c7, h2, [[97], [36, 115, 101, 101, 110]], rfl, by omega, Lib.hid rfl, Lib.hid rfl, Lib.hid HKA.out.below, HS7, HF7, HO7⟩
  case rest =>
    obtain ⟨A6, n6, c6, h6, ks6, rfl, hn6, HKS6, HN6, HB6, HS6, HF6, HO6⟩ := hcut
    obtain ⟨w6, rfl⟩ : ∃ w6 : World, w6 = wc := ⟨_, rfl⟩
    clear HK0 HB5 HO5
    go_upto_if 37 with (fail)
    go_cut [9] (fun v wx => ∃ (A : Option Addr) (n c : Nat) (h : Option Nat) (ks : Texts), v = .slice A n c ∧ n ≤ 4 ∧ Hid (ks = seenIn seen other) ∧ Hid (n = ks.length) ∧ Hid (Below w4.heap.size w4 wx) ∧ Hid (Sl wx 9 1 (.slice A n c) h n (ks.map encStr)) ∧ Hid (∀ b, h = some b → w4.heap.size ≤ b) ∧ Hid (OwnStore w wx g q4 x1))
    case first =>
      cases other with
      | false =>
        go_wp2_with fail
        go_meet
        exact ⟨A6, n6, c6, h6, ks6, rfl, by omega, Lib.hid (by rw [HKS6.out]; unfold seenIn; simp), HN6, HB6, HS6, HF6, HO6⟩
      | true =>
        go_wp2_with (first
          | (at_builtin; refine wpList_append_sl rfl _ _ 37 rfl Tryz.underlying37 hi hz0 hz1 hz2 rfl (by decide) HS6.out rfl 2 2 rfl rfl ?_ ?_ ?_ ?_)
          | fail)
        any_goals (first | (simp [Value.oneCell']; done) | (unfold maxLen; omega) | omega)
        intro v2 h2 w7 hs7 hc7 ho7
        obtain ⟨A7, c7, rfl, _, _⟩ := hs7.form
        have HKA := Lib.hid (KRel.app (more := [[98], [98]]) (Below.refl _ w4) (fun b hb => HF6.out b hb) HB6.out hs7 (by rw [List.length_append, ← HN6.out]; rfl) hc7 ho7)
        have HS7 : Hid (Sl w7 9 1 (.slice A7 (n6 + 2) c7) h2 (n6 + 2) ((ks6 ++ [[98], [98]]).map encStr)) := Lib.hid (by rw [List.map_append]; exact hs7)
        have HO7 : Hid (OwnStore w w7 g q4 x1) := Lib.hid (HO6.out.chg4 HB6.out hc7 (fun k hk => HF6.out k (by simpa using hk)) HO4.out)
        have HF7 : Hid (∀ b, h2 = some b → w4.heap.size ≤ b) := Lib.hid (fun b hb => by
          rcases ho7 with h1 | ⟨g2, h1, h3⟩
          · exact HF6.out b (by rw [← h1]; exact hb)
          · rw [h1] at hb
            injection hb with hb
            have := HB6.out.size
            omega)
        clear hs7 hc7 ho7
        go_wp2_with fail
        go_meet
        exact ⟨A7, n6 + 2, c7, h2, ks6 ++ [[98], [98]], rfl, by omega, Lib.hid (by rw [HKS6.out]; unfold seenIn; simp), Lib.hid (by rw [List.length_append, ← HN6.out]; rfl), Lib.hid HKA.out.below, HS7, HF7, HO7⟩
    case rest =>
      obtain ⟨A8, n8, c8, h8, ks8, rfl, hn8, HKS8, HN8, HB8, HS8, HF8, HO8⟩ := hcut
      obtain ⟨w8, rfl⟩ : ∃ w8 : World, w8 = wc := ⟨_, rfl⟩
      clear HKS6 HN6 HB6 HS6 HF6 HO6
      have hkin : KeyIn w8 g q4 x1 (seenIn seen other) (.slice A8 n8 c8) [] := ⟨HO8.out.at_, HF1.out, by
        rw [← HKS8.out, ← HN8.out]
        exact HS8.out.reads [] (by simp), by rw [← HKS8.out, ← HN8.out]; omega, seenIn_short seen other⟩
      have hkc := keys_said w8 g q4 x1 1 (seenIn seen other) (.slice A8 n8 c8) [] hkin
      rw [HK2.out] at hkc
      clear hkin
      go_upto_region 12 with (first
        | (go_at_call 24; refine hkc.mono ?_; rintro e w9 ⟨rfl, q9, ht9⟩; have HO9 := Lib.hid (HO8.out.turned ht9); have HS9 := Lib.hid (HS8.out.chg ht9.chg (fun b hb hm => by have h1 := HO4.out.at_.lt b hm; have h2 := HF8.out b hb; omega)); have HQ9 := Lib.hid ht9.own; clear hkc ht9)
        | fail)
      go_cut [47] (fun v wx => v = .bool so ∧ wx = w9)
      case first =>
        cases seen
        all_goals
          go_wp2_with fail
          go_meet
          exact ⟨by rw [← HSO.out]; rfl, rfl⟩
      case rest =>
        obtain ⟨rfl, rfl⟩ := hcut
        obtain ⟨w9, rfl⟩ : ∃ w9 : World, w9 = wc := ⟨_, rfl⟩
        go_upto_if 47 with (fail)
        go_cut [11] (fun v wx => v = .int .i64 cl ∧ wx = w9)
        case first =>
          cases so
          all_goals
            go_wp2_with fail
            go_meet
            exact ⟨by rw [← HCLV.out]; rfl, rfl⟩
        case rest =>
          obtain ⟨rfl, rfl⟩ := hcut
          obtain ⟨w9, rfl⟩ : ∃ w9 : World, w9 = wc := ⟨_, rfl⟩
          go_upto_if 48 with (fail)
          go_cut [12] (fun v wx => v = .int .i64 bm ∧ wx = w9)
          case first =>
            cases seen
            all_goals
              go_wp2_with fail
              go_meet
              exact ⟨by rw [← HBMV.out]; rfl, rfl⟩
          case rest =>
            obtain ⟨rfl, rfl⟩ := hcut
            obtain ⟨w9, rfl⟩ : ∃ w9 : World, w9 = wc := ⟨_, rfl⟩
            have hkin : KeyIn w9 g q9 x2 (seenIn seen other) (.slice A8 n8 c8) [] := ⟨HO9.out.at_, HF2.out, by
              rw [← HKS8.out, ← HN8.out]
              exact HS9.out.reads [] (by simp), by rw [← HKS8.out, ← HN8.out]; omega, seenIn_short seen other⟩
            have hkc := keys_said w9 g q9 x2 1 (seenIn seen other) (.slice A8 n8 c8) [] hkin
            rw [HK3.out] at hkc
            have HKC := Lib.hid hkc
            clear hkin hkc
            go_upto_if 49 with (fail)
            go_cut [] (fun wx => ∃ q10 x10, Hid (OwnStore w wx g q10 x10) ∧ Hid (Fit x10) ∧ Hid (x10.clock = x2.clock ∧ x10.mails = x2.mails ∧ x10.boxes = x2.boxes))
            case first =>
              cases again with
              | false =>
                go_wp2_with fail
                go_meet
                exact ⟨q9, x2, HO9, HF2, Lib.hid ⟨rfl, rfl, rfl⟩⟩
              | true =>
                go_wp2_with (first
                  | (go_at_call 24; refine HKC.out.mono ?_; rintro e w10 ⟨rfl, q10, ht10⟩; have HO10 := Lib.hid (HO9.out.turned ht10); clear ht10)
                  | (go_at_call 18; refine (num_any _ _).mono ?_; rintro e wn ⟨rfl, rfl⟩)
                  | fail)
                go_meet
                exact ⟨q10, x3, HO10, HF3, Lib.hid ⟨HC3.out, HM3.out, HB3.out⟩⟩
            case rest =>
              obtain ⟨q10, x10, HO10, HF10, HE10⟩ := hcut
              obtain ⟨w10, rfl⟩ : ∃ w10 : World, w10 = wc := ⟨_, rfl⟩
              obtain ⟨m1, hm1, hmm1⟩ : ∃ m1, x10.mails = [m1] ∧ m1.mod = cl := by
                have h1 := HMM.out
                rw [← HE10.out.2.1] at h1
                cases hx : x10.mails with
                | nil => rw [hx] at h1; simp at h1
                | cons m r =>
                  rw [hx] at h1
                  simp only [List.map_cons, List.cons.injEq, List.map_eq_nil_iff] at h1
                  exact ⟨m, by rw [h1.2], h1.1⟩
              obtain ⟨y1, hy1, hym1⟩ : ∃ y1, x10.boxes = [y1] ∧ y1.mod = bm := by
                have h1 := HBB.out
                rw [← HE10.out.2.2] at h1
                cases hx : x10.boxes with
                | nil => rw [hx] at h1; simp at h1
                | cons m r =>
                  rw [hx] at h1
                  simp only [List.map_cons, List.cons.injEq, List.map_eq_nil_iff] at h1
                  exact ⟨m, by rw [h1.2], h1.1⟩
              have hmc := mails_any w10 g q10 x10 HO10.out.at_ HF10.out.small
              rw [hm1] at hmc
              have hbc := fun W (hb : Below w10.heap.size w10 W) => boxes_any W g q10 x10 (HO10.out.at_.later hb) (by rw [hy1]; show 1 ≤ _; omega)
              rw [hy1] at hbc
              have hcc := fun W (hb : Below w10.heap.size w10 W) => clock_any g x10.clock W (HO10.out.at_.later hb).cell9
              rw [HE10.out.1, HCL.out] at hcc
              have haw := fun W => awake_any HAPP.out W
              have HBC := Lib.hid hbc
              have HCC := Lib.hid hcc
              have HMM1 := Lib.hid hmm1
              have HYM1 := Lib.hid hym1
              clear hbc hcc hmm1 hym1 hm1 hy1
              go_wp2_with (first
                | (go_at_call 20; refine hmc.mono ?_; rintro e w11 ⟨A11, c11, rfl, hma, hb11⟩; (obtain ⟨ms, hms, hmr, hmp⟩ := hma; have hl1 : ms.length = 1 := (by simpa using congrArg List.length hms); obtain ⟨bm_, om, cm, hvm, _, _, hbl, _, hat⟩ := hmr.at_ (by omega); have HAT := Lib.hid hat; have HMS := Lib.hid hms; have hbc1 := HBC.out w11 hb11; have HB11 := Lib.hid hb11; clear hmc hmp hmr hat hms hb11; have hA11 : A11 = some ⟨bm_, om, none⟩ := (Value.slice.inj hvm).1; clear hvm; subst hA11))
                | (go_at_call 25; (refine hbc1.mono ?_; rintro e w12 ⟨v12, h12, rfl, hs12, _, hb12⟩; clear hbc1; obtain ⟨bb, ob, cb, _, hvb, _, _, _, hat12⟩ := hs12.at_ (by show 0 < 1; omega); subst hvb; have d5 : w12.cell? ⟨bb, ob + 5, none⟩ = some (.int .i64 bm) := (hat12 5 (by show 5 < 1 * 6; omega)).1.trans (by rw [← HYM1.out]; rfl); have d6 : w12.cell? ⟨bm_, om + 6, none⟩ = some (.int .i64 cl) := (hb12.cell (p := ⟨bm_, om + 6, none⟩) hbl).trans ((HAT.out 6 (by omega)).trans (one_mod HMS.out HMM1.out)); have hcc1 := HCC.out w12 (below_then HB11.out hb12); have HB12 := Lib.hid (below_then HB11.out hb12); clear hs12 hat12 hb12))
                | (go_at_call 26; refine hcc1.mono ?_; rintro e wn ⟨rfl, rfl⟩; clear hcc1)
                | (go_at_call 18; refine (num_any _ _).mono ?_; rintro e wn ⟨rfl, rfl⟩)
                | (go_at_call 15; refine (haw _).mono ?_; rintro e w13 ⟨rfl, hb13⟩; have HB13 := Lib.hid hb13; clear hb13 haw)
                | fail)
              go_ret
              exact ⟨rfl, below_then HO10.out.below (below_then HB12.out HB13.out)⟩

end Go.Proofs.YtmbibhphpjmboaaGreatDoor
