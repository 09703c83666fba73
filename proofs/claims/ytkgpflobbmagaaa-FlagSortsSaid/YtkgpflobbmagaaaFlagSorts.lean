/-
  The walk of pillarboxlaw15.FlagSorts.
-/
import Derived.Test.YtkgpflobbmagaaaFlagSmall
namespace Go.Proofs.Ytkgpflobbmagaaa
open Go.RowKit Go.Sort
attribute [local go_sem ↓] Go.wp_at_zero Go.wp_at_succ

/-- What Keys says of keywords. -/
theorem keysF_ok (l : Texts) : ((keysF l).2 = 0 ∧ (keysF l).1.Pairwise (· < ·) ∧ (∀ x, x ∈ (keysF l).1 ↔ x ∈ l) ∧ (keysF l).1.length ≤ 16 ∧ keysF (keysF l).1 = ((keysF l).1, 0)) ∨ ((keysF l).2 ≠ 0 ∧ (keysF l).1 = []) := by
  by_cases h1 : l.any (fun s => !rightL s) = true
  · refine .inr ?_
    unfold keysF
    rw [if_pos h1]
    exact ⟨by decide, rfl⟩
  · by_cases h2 : 16 < (Lib.compact (sortB l)).length
    · refine .inr ?_
      unfold keysF
      rw [if_neg h1, if_pos h2]
      exact ⟨by decide, rfl⟩
    · have hk : keysF l = (Lib.compact (sortB l), 0) := by
        unfold keysF
        rw [if_neg h1, if_neg h2]
      obtain ⟨a, b⟩ := keysL_ok l
      rw [hk]
      refine .inl ⟨rfl, a, b, by simp only; omega, ?_⟩
      simp only
      unfold keysF
      have h3 : ¬ (Lib.compact (sortB l)).any (fun s => !rightL s) = true := by
        intro h
        obtain ⟨x, hx, hx2⟩ := List.any_eq_true.1 h
        exact h1 (List.any_eq_true.2 ⟨x, (b x).1 hx, hx2⟩)
      rw [if_neg h3, keysL_again _ a, if_neg h2]

theorem bytesLess_no {a b : List UInt8} (h : a < b) : Op.bytesLess b a = false ∧ (b == a) = false := by
  rw [bytesLess_eq, decide_eq_false_iff_not, beq_eq_false_iff_ne]
  exact ⟨fun h2 => Std.lt_irrefl (Std.lt_trans h h2), fun e => Std.lt_irrefl (e ▸ h)⟩

set_option maxRecDepth 100000 in
set_option maxHeartbeats 4000000 in
theorem flagSorts_any (w : World) (v : Value) (n : Nat) (l : Texts) (hn : l.length = n) (hr : RdS w [] 1 v n (l.map encStr)) :
    Calls Try.prog 10 #[v] w fun e w' => e = .returned (.bool true) ∧ Below w.heap.size w w' := by
  have hAw := fun W => awake15_any W
  have hNu := fun W n => numF_any W n
  have hg := great_any w v n l hn hr
  obtain ⟨A, cap, rfl, _, _⟩ := hr.form
  cases hgr : greatL l
  · rw [hgr] at hg
    obtain ⟨hn100, hlen⟩ := not_great hgr
    have hsh : Short l := fun s hs => Nat.le_trans (hlen s hs) (by decide)
    have hk := keys_any w _ n l hn (by omega) hr hsh
    have hn1 : n ≤ 100 := by omega
    have HR := Lib.hid hr
    have HN := Lib.hid hn
    rcases keysF_ok l with ⟨h0, hpw, hmem, h16, hagain⟩ | ⟨h0, hnil⟩
    · have hshk : Short (keysF l).1 := fun s hs => hsh s ((hmem s).1 hs)
      rw [h0] at hk
      generalize (keysF l).1 = ks at hk hpw hmem h16 hagain hshk
      obtain ⟨K, hK⟩ : ∃ K, ks.length = K := ⟨_, rfl⟩
      rw [hK] at hk h16
      have HK := Lib.hid hK
      have HPW := Lib.hid hpw
      have HMEM := Lib.hid hmem
      have HAG := Lib.hid hagain
      have HSH := Lib.hid hshk
      clear hr hn hK hpw hmem hagain hshk hsh hlen h0 hgr
      go_enter Try.func10, Try.ntmps10
      go_wp2_with (first
        | (go_at_call 32; refine hg.mono ?_; rintro e w1 ⟨rfl, rfl⟩; clear hg)
        | (go_at_call 33; refine hk.mono ?_; rintro e w2 ⟨B, capB, hh, rfl, hs2, hb2, _⟩; have HS := Lib.hid (hs2.reads [] (by simp)); have HB := Lib.hid hb2; clear hk hs2 hb2)
        | (go_at_call 20; refine (hNu _ _).mono ?_; rintro e wn ⟨rfl, rfl⟩)
        | fail)
      go_loopw [5] (fun i wr => ∃ k q : Nat, k ≤ K ∧ i = .int .i64 k ∧ Hid (wr = w2.drewN q)) (fun i _ => K - (intOf i).toNat)
      case atStart => exact ⟨0, 0, Nat.zero_le _, rfl, Lib.hid rfl⟩
      case round =>
        obtain ⟨k, q, hk, rfl, HU⟩ := hrel
        have HRq := Lib.hid (fun m => ((HR.out.below HB.out).drewN q).drewN m)
        have HSq := Lib.hid ((HS.out.drewN q))
        by_cases hlt : k < K
        · have hke : k < ks.length := by rw [HK.out]; exact hlt
          obtain ⟨b, off, cap2, hva, hbl, _, e0⟩ := HSq.out.str k hke
          injection hva with hva1 _ hva3
          subst hva1
          subst hva3
          have d0 : wr.cell? ⟨b, off + k, none⟩ = some (encStr ks[k]) := by rw [HU.out]; exact e0
          have hin : decide (ks[k] ∈ l) = true := decide_eq_true ((HMEM.out _).1 (List.getElem_mem hke))
          have hh := fun m => has_any (wr.drewN m) (.slice A n cap) n l ks[k] HN.out (by rw [HU.out]; exact HRq.out m)
          rw [hin] at hh
          clear e0 hin
          by_cases hk0 : k = 0
          · have g0 : decide (0 < k) = false := decide_eq_false (by omega)
            generalize ks[k] = s at d0 hh
            clear hk0
            go_wp2_with fail
            go_quiet ((go_at_call 34; exact qs (hh _)))
            go_wp2_with fail
            have HU2 : Hid (wr.drewN nq = w2.drewN (q + nq)) := Lib.hid (by rw [HU.out, World.drewN_drewN])
            refine ⟨?_, by simp [intOf]; omega⟩
            first | exact ⟨k + 1, _, by omega, by go_num, HU2⟩ | ((repeat apply Exists.intro); exact ⟨⟨k + 1, _, by omega, by go_num, HU2⟩, rfl⟩)
          · have g0 : decide (0 < k) = true := decide_eq_true (by omega)
            have hkj : k - 1 < ks.length := by omega
            obtain ⟨b2, off2, cap3, hva, _, _, e1⟩ := HSq.out.str (k - 1) hkj
            injection hva with hva1 hvx hvy
            clear hvx hvy
            injection hva1 with hva1
            injection hva1 with hv1 hv2 _
            subst hv1
            subst hv2
            have d1 : wr.cell? ⟨b, off + (k - 1), none⟩ = some (encStr ks[k - 1]) := by rw [HU.out]; exact e1
            obtain ⟨l1, l2⟩ := bytesLess_no (List.pairwise_iff_getElem.1 HPW.out (k - 1) k hkj hke (by omega))
            generalize ks[k] = s at d0 hh l1 l2
            generalize ks[k - 1] = s' at d1 l1 l2
            have i1 : IntKind.i64.wrap ((k : Int) - 1) = (k : Int) - 1 := IntWalk.i64_in _ (by omega)
            have i2 : 0 ≤ (k : Int) - 1 := by omega
            have i3 : ((k : Int) - 1).toNat = k - 1 := by omega
            clear hk0 e1 hkj
            go_wp2_with fail
            go_quiet ((go_at_call 34; exact qs (hh _)))
            go_wp2_with fail
            clear i1 i2 i3
            have HU2 : Hid (wr.drewN nq = w2.drewN (q + nq)) := Lib.hid (by rw [HU.out, World.drewN_drewN])
            refine ⟨?_, by simp [intOf]; omega⟩
            first | exact ⟨k + 1, _, by omega, by go_num, HU2⟩ | ((repeat apply Exists.intro); exact ⟨⟨k + 1, _, by omega, by go_num, HU2⟩, rfl⟩)
        · have hkK : k = K := by omega
          subst hkK
          obtain ⟨wo, rfl⟩ : ∃ wo : World, wo = wr := ⟨_, rfl⟩
          have HRo : Hid (RdS wo [] 1 (.slice A n cap) n (l.map encStr)) := Lib.hid (by rw [HU.out]; exact HRq.out 0)
          have HSo : Hid (RdS wo [] 1 (.slice B k capB) k (ks.map encStr)) := Lib.hid (by rw [HU.out]; exact HSq.out)
          have HBo : Hid (Below w.heap.size w wo) := Lib.hid (by rw [HU.out]; exact below_drewN' HB.out q)
          clear HRq HSq
          go_wp2_with fail
          go_loop [6] (fun i => ∃ j : Nat, j ≤ n ∧ i = .int .i64 j) (fun i => n - (intOf i).toNat)
          case atStart => exact ⟨0, Nat.zero_le _, rfl⟩
          case round =>
            obtain ⟨j, hj, rfl⟩ := hrel
            by_cases hlt : j < n
            · have hje : j < l.length := by rw [HN.out]; exact hlt
              obtain ⟨b, off, cap2, hva, hbl, _, d0⟩ := HRo.out.str j hje
              injection hva with hva1 _ hva3
              subst hva1
              subst hva3
              have hin : decide (l[j] ∈ ks) = true := decide_eq_true ((HMEM.out _).2 (List.getElem_mem hje))
              have hh := has_any wo (.slice B k capB) k ks l[j] HK.out HSo.out
              rw [hin] at hh
              clear hin
              generalize l[j] = s at d0 hh
              go_wp2_with (go_at_call 34; refine hh.mono ?_; rintro e w3 ⟨rfl, rfl⟩)
              go_round
              case rel => exact ⟨j + 1, by omega, by go_num⟩
              case measure => simp [intOf]; omega
            · have hk2 := keys_any wo _ k ks HK.out (by omega) HSo.out HSH.out
              rw [HAG.out] at hk2
              simp only [HK.out] at hk2
              have h16' : decide ((k : Int) ≤ 16) = true := decide_eq_true (by omega)
              go_wp2_with (first
                | (go_at_call 33; refine hk2.mono ?_; rintro e w4 ⟨C, capC, hh4, rfl, hs4, hb4, _⟩; have hsm := same_yes w4 _ _ k ks HK.out (HSo.out.below hb4) (hs4.reads [] (by simp)); have HB4 := Lib.hid (bthen HBo.out hb4); clear hk2 hs4 hb4)
                | (go_at_call 20; refine (hNu _ _).mono ?_; rintro e wn ⟨rfl, rfl⟩)
                | (go_at_call 35; refine hsm.mono ?_; rintro e w5 ⟨rfl, hb5⟩; have HB5 := Lib.hid (bthen HB4.out hb5); clear hb5 hsm)
                | (go_at_call 14; refine (hAw _).mono ?_; rintro e w6 ⟨rfl, hb6⟩; have HB6 := Lib.hid (bthen HB5.out hb6); clear hb6)
                | fail)
              go_ret
              exact ⟨rfl, HB6.out⟩
    · have hne : ((keysF l).2 != 0) = true := by simpa using h0
      rw [hnil] at hk
      generalize (keysF l).2 = er at hk hne
      simp only [List.length_nil, List.map_nil] at hk
      clear hr hn hsh hlen h0 hnil hgr
      go_enter Try.func10, Try.ntmps10
      go_wp2_with (first
        | (go_at_call 32; refine hg.mono ?_; rintro e w1 ⟨rfl, rfl⟩; clear hg)
        | (go_at_call 33; refine hk.mono ?_; rintro e w2 ⟨B, capB, hh, rfl, hs2, hb2, _⟩; have HB := Lib.hid hb2; clear hk hs2 hb2)
        | (go_at_call 20; refine (hNu _ _).mono ?_; rintro e wn ⟨rfl, rfl⟩)
        | (go_at_call 14; refine (hAw _).mono ?_; rintro e w6 ⟨rfl, hb6⟩; have HB6 := Lib.hid (bthen HB.out hb6); clear hb6)
        | fail)
      go_ret
      exact ⟨rfl, HB6.out⟩
  · rw [hgr] at hg
    clear hr hn hgr
    go_enter Try.func10, Try.ntmps10
    go_wp2_with (first
      | (go_at_call 32; refine hg.mono ?_; rintro e w1 ⟨rfl, rfl⟩; clear hg)
      | (go_at_call 14; refine (hAw _).mono ?_; rintro e w6 ⟨rfl, hb6⟩; have HB6 := Lib.hid hb6; clear hb6)
      | fail)
    go_ret
    exact ⟨rfl, HB6.out⟩

end Go.Proofs.Ytkgpflobbmagaaa
