/-
  The walk of pillarboxlaw24.ViewGone.
-/
import Derived.Test.YtgkfknbhkonfdaaGreatDoorViewLoopsM
namespace Go.Proofs.YtgkfknbhkonfdaaGreatDoor
open Go.Shelf Go.RowKit Go.Lib
attribute [local go_sem ↓] Go.wp_at_zero Go.wp_at_succ

structure GnR (w wr : World) (gs : List Bool) (k j : Nat) (g : Nat) (q : Lies) (x : Acc) (gv : Nat) (qv : VLies) (V : ViewP) (m : Nat) (wt : Text) : Prop where
  own : OwnStore w wr g q x
  st : GoSt x gs k j
  view : OwnView w wr gv qv V
  left : m = (idsK gs j).length
  want : wt = wantG gs j
theorem wantG_len (gs : List Bool) : ∀ j, j ≤ 1000 → (wantG gs j).length ≤ 40 * j
  | 0, _ => by simp [wantG]
  | j + 1, h => by
    have ih := wantG_len gs j (by omega)
    have hl := idsK_len gs j
    unfold wantG
    rw [List.length_append]
    split
    · have h1 := sayT_len (((idsK gs j).length : Int) + 1) (by omega) expungeT
      have h2 : expungeT.length = 7 := rfl
      omega
    · simp
      omega
theorem msOk_app {gs : List Bool} {k c : Nat} (hk : k ≤ 900) (hc : c ≤ 4000) : MsOk (msG gs k k ++ [mailV xT (k + 1) c]) := by
  have h := msOk_G gs (k := k) (i := k) (by omega)
  have hl := msOk_one xT (k + 1) c (by omega) (by omega)
  have hlen : (msG gs k k).length ≤ k := by
    unfold msG
    refine Nat.le_trans (List.length_filter_le _ _) ?_
    rw [msK_len]
    exact Nat.le_refl _
  refine ⟨fun m hm => ?_, fun m hm => ?_, fun m hm => ?_, ?_, by rw [List.length_append]; simp; omega⟩
  · rcases List.mem_append.1 hm with h1 | h1
    · exact h.one m h1
    · exact hl.one m h1
  · rcases List.mem_append.1 hm with h1 | h1
    · exact h.keys m h1
    · exact hl.keys m h1
  · rcases List.mem_append.1 hm with h1 | h1
    · exact h.num m h1
    · exact hl.num m h1
  · rw [List.map_append, List.pairwise_append]
    refine ⟨h.rising, by simp, ?_⟩
    intro a ha b hb
    obtain ⟨m, hm, rfl⟩ := List.mem_map.1 ha
    obtain ⟨i, hi, e⟩ := msK_id (msG_sub hm)
    rw [List.map_singleton, List.mem_singleton] at hb
    rw [hb, e]
    show ((i + 1 : Nat) : Int) < ((k + 1 : Nat) : Int)
    omega

set_option maxRecDepth 100000 in
set_option maxHeartbeats 8000000 in
theorem viewGone_any (n : Nat) (hn : n ≤ 255) (va : Value) (gs : List Bool) (w : World) (hr : RdS w [] 1 va gs.length (gs.map Value.bool)) (ht : TensV w) :
    Calls Tryz.prog 4 #[.int .u8 n, va] w fun e w' => e = .returned (.bool true) ∧ Below w.heap.size w w' := by
  obtain ⟨k, hk, hk20, hk1⟩ : ∃ k : Nat, 1 + (n : Int) % 12 = (k : Int) ∧ k ≤ 12 ∧ 1 ≤ k := ⟨1 + n % 12, by omega, by omega, by omega⟩
  have hwg : IntKind.i64.wrap (n : Int) = (n : Int) := IntWalk.i64_in _ (by omega)
  obtain ⟨Ag, cg, rfl, _, _⟩ := hr.form
  obtain ⟨ng, hng⟩ : ∃ ng, gs.length = ng := ⟨_, rfl⟩
  rw [hng] at hr
  have HNG := Lib.hid hng
  try rw [hng]
  have haw : ∀ W, Below w.heap.size w W → _ := fun W hb => awakeV_any W (ht.later hb)
  have HAW := Lib.hid haw
  have HR := Lib.hid hr
  have HTE := Lib.hid ht
  have hngb : ng ≤ maxLen := by
    obtain ⟨A, c, hv, h1, h2⟩ := hr.form
    omega
  have hngb2 : ng ≤ 9223372036854775807 := by unfold maxLen at hngb; omega
  clear haw hr hng ht hngb
  go_enter Tryz.func4, Tryz.ntmps4
  go_upto_block 0 with (first
    | (go_at_call 11; refine (begun_any _).mono ?_; rintro e w1 ⟨g, q, g2, rfl, ho⟩; have HO1 := Lib.hid ho; clear ho)
    | fail)
  try rw [hk]
  clear hk hwg
  have HS0 : Hid (OwnStore w w1 g q (newP wideP) ∧ ViSt (newP wideP) 0 0 (msK 0)) := Lib.hid ⟨HO1.out, viSt_new⟩
  go_wp2_with fail
  go_loopw [8] (fun i wr => ∃ (i0 : Nat) (x : Acc) (q1 : Lies), i0 ≤ k ∧ i = .int .i64 ((i0 : Int) + 1) ∧ Hid (OwnStore w wr g q1 x ∧ ViSt x i0 i0 (msK i0))) (fun i _ => k + 1 - (intOf i).toNat)
  case atStart => exact ⟨0, _, q, Nat.zero_le _, rfl, HS0⟩
  case round =>
    clear HS0
    obtain ⟨i0, x, q1, hi0, rfl, HU⟩ := hrel
    have hiw : IntKind.i64.wrap ((i0 : Int) + 1 + 1) = (i0 : Int) + 1 + 1 := IntWalk.i64_in _ (by omega)
    by_cases hlt : i0 < k
    · have hle : (i0 : Int) + 1 ≤ (k : Int) := by omega
      obtain ⟨x', hp, hs'⟩ := app_step HU.out.2 (by omega)
      have hA := append_law HU.out.1 HU.out.2.fit xT (by decide) hp
      have HA := Lib.hid hA
      have HSX := Lib.hid hs'
      clear hA hp hs'
      go_wp2_with (first
        | (go_at_call 20; refine HA.out.mono ?_; rintro e w3 ⟨rfl, q3, ho, _⟩; have HN : Hid (OwnStore w w3 g q3 x' ∧ ViSt x' (i0 + 1) (i0 + 1) (msK (i0 + 1))) := Lib.hid ⟨ho, HSX.out⟩; clear ho)
        | fail)
      refine ⟨?_, by simp [intOf]; omega⟩
      first | exact ⟨i0 + 1, x', q3, by omega, by go_num, HN⟩ | ((repeat apply Exists.intro); exact ⟨⟨i0 + 1, x', q3, by omega, by go_num, HN⟩, rfl⟩)
    · have hle : ¬ (i0 : Int) + 1 ≤ (k : Int) := by omega
      have hik : i0 = k := by omega
      subst hik
      obtain ⟨v1, v2, _, _⟩ := new_view (ms := msK i0) (k := i0) (by omega) fun m hm => by
        obtain ⟨i, hi, e⟩ := msK_id hm
        rw [e]
        omega
      have hmk : MsOk (msK i0) := msOk_msK (by omega)
      have hquiet := viewGone_quiet flagsF gs i0
      have htold := fun c => viewGone_told flagsF gs i0 c
      have hnw := new_law HU.out.1 HU.out.2.fit HU.out.2.mails hmk HU.out.2.has
      obtain ⟨V, hV⟩ : ∃ V, newV 1 (zsOf (msK i0)) = V := ⟨_, rfl⟩
      rw [hV] at v1 v2 hquiet hnw
      simp only [hV] at htold
      have hvn : V.l.length = i0 := by rw [v2, List.length_map, msK_len]
      have hmu : ∀ m ∈ V.l, m.uid ≤ 4294967296 := fun m hm => by
        rw [v2] at hm
        obtain ⟨y, hy, rfl⟩ := List.mem_map.1 hm
        exact (hmk.num y hy).1
      have HNW := Lib.hid hnw
      have HQU := Lib.hid hquiet
      have HTO := Lib.hid htold
      have HV1 := Lib.hid v1
      have HVN := Lib.hid hvn
      have HMU := Lib.hid hmu
      have HST0 := Lib.hid HU.out.2
      clear v1 v2 hmk hquiet htold hnw hV hvn hmu
      go_upto_block 2 with (first
        | (go_at_call 12; refine HNW.out.mono ?_; rintro e w4 ⟨gv, qv, rfl, ho, hv⟩; have HR0 : Hid (GnR w w4 gs i0 0 g q1 x gv qv V 0 []) := Lib.hid ⟨ho, GoSt.start gs HST0.out, hv, rfl, rfl⟩; clear ho hv)
        | (go_at_call 13; refine (num_any _ _).mono ?_; rintro e wn ⟨rfl, rfl⟩)
        | fail)
      go_wp2_with fail
      go_loopw [11, 12, 13] (fun wt mv i wr => ∃ (j m : Nat) (x : Acc) (q1 : Lies) (tx : Text), j ≤ i0 ∧ m ≤ j ∧ wt = .string ⟨tx.toArray⟩ ∧ mv = .int .i64 m ∧ i = .int .i64 ((j : Int) + 1) ∧ Hid (GnR w wr gs i0 j g q1 x gv qv V m tx)) (fun _ _ i _ => i0 + 1 - (intOf i).toNat)
      case atStart => exact ⟨0, 0, x, q1, [], Nat.zero_le _, Nat.zero_le _, rfl, rfl, rfl, HR0⟩
      case round =>
        clear HR0 HU HST0 HNW
        obtain ⟨j, m, x, q1, tx, hj, hm, rfl, rfl, rfl, HU⟩ := hrel
        have hjw : IntKind.i64.wrap ((j : Int) + 1 + 1) = (j : Int) + 1 + 1 := IntWalk.i64_in _ (by omega)
        have hmw : IntKind.i64.wrap ((m : Int) + 1) = (m : Int) + 1 := IntWalk.i64_in _ (by omega)
        have htl : tx.length ≤ 1000 := by
          have h1 := wantG_len gs j (by omega)
          have h2 := HU.out.want
          rw [h2]
          omega
        have hap : ∀ a b : List UInt8, ByteArray.mk a.toArray ++ ByteArray.mk b.toArray = ByteArray.mk (a ++ b).toArray := fun a b => ByteArray.mk_append_mk a b
        obtain ⟨D, hD⟩ : ∃ D, digL ((m : Int) + 1) = D := ⟨_, rfl⟩
        have hdl : D.length ≤ 21 := by rw [← hD]; exact digL_le _ (by omega)
        have hdg : ∀ W, Calls Tryz.prog 22 #[.int .i64 ((m : Int) + 1)] W fun e w' => e = .returned (.string ⟨D.toArray⟩) ∧ Below W.heap.size W w' := fun W => by
          rw [← hD]
          exact refDigits_any _ (by omega) W
        have HDG := Lib.hid hdg
        have HDD := Lib.hid hD
        have n1 : ¬ 9223372036854775807 < tx.length + 2 := by omega
        have n2 : ¬ 9223372036854775807 < tx.length + 2 + D.length := by omega
        have n3 : ¬ 9223372036854775807 < tx.length + (D.length + 2) := by omega
        have n4 : ¬ 9223372036854775807 < tx.length + (D.length + 2) + 10 := by omega
        have n5 : ¬ 9223372036854775807 < tx.length + 2 + D.length + 10 := by omega
        have n6 : ¬ 9223372036854775807 < tx.length + (D.length + 2) + 9 := by omega
        have n7 : ¬ 9223372036854775807 < tx.length + 2 + D.length + 9 := by omega
        clear hdg hD
        by_cases hltj : j < i0
        · have hle2 : (j : Int) + 1 ≤ (i0 : Int) := by omega
          have hj0 : (0 : Int) ≤ (j : Int) := by omega
          have hjm : (j : Int) + 1 - 1 = (j : Int) := by omega
          have hjb : (j : Int) ≤ 100 := by omega
          by_cases hjl : j < ng
          · have hlz : (j : Int) + 1 ≤ (ng : Int) := by omega
            have hjg : j < gs.length := by rw [HNG.out]; exact hjl
            obtain ⟨ba, oa, ca, hva, _, _, hbla, _, hata⟩ := HR.out.at_ (by omega)
            injection hva with hva1 _ hva3
            subst hva1 hva3
            obtain ⟨gb, hgb0⟩ : ∃ gb, gs[j] = gb := ⟨_, rfl⟩
            have hgb : goneAt gs (j + 1) = gb := by
              unfold goneAt
              rw [show j + 1 - 1 = j by omega, List.getElem?_eq_getElem hjg, hgb0]
              rfl
            have d0 : wr.cell? ⟨ba, oa + j, none⟩ = some (.bool gb) := (HU.out.own.below.cell (p := ⟨ba, oa + j, none⟩) hbla).trans ((hata j (by omega)).trans (by rw [List.getElem?_map, List.getElem?_eq_getElem hjg, hgb0]; rfl))
            clear hata hgb0
            cases gb with
            | true =>
              obtain ⟨x', hp, hs'⟩ := HU.out.st.go hltj (by omega) hgb
              have hf : Fit x := by
                obtain ⟨c, _, hs⟩ := HU.out.st.st
                exact hs.fit
              have hDe := destroy_law HU.out.own hf hp
              have hids : idsK gs (j + 1) = idsK gs j := by rw [idsK_succ, hgb]; simp
              have hwa : tx ++ 42 :: 32 :: (D ++ [32, 69, 88, 80, 85, 78, 71, 69, 13, 10]) = wantG gs (j + 1) := by
                show _ = wantG gs j ++ (if goneAt gs (j + 1) then sayT ((idsK gs j).length + 1) expungeT else [])
                rw [hgb, if_pos rfl, ← HU.out.want, ← HU.out.left]
                unfold sayT
                rw [HDD.out]
                simp [expungeT]
              have HDE : Hid (Calls Tryz.prog 21 #[.pointer (some ⟨g, 0, none⟩), .int .i64 ((j : Int) + 1)] wr fun e w' => e = .returned (.int .i64 0) ∧ ∃ q', Hid (GnR w w' gs i0 (j + 1) g q' x' gv qv V m (tx ++ 42 :: 32 :: (D ++ [32, 69, 88, 80, 85, 78, 71, 69, 13, 10])))) := Lib.hid (hDe.mono fun e w' ⟨he, q', h1, h2⟩ => ⟨he, q', Lib.hid ⟨h1, hs', h2 _ _ _ HU.out.view, by rw [hids]; exact HU.out.left, hwa⟩⟩)
              clear hDe hp hs' hf hids hgb hwa
              go_wp2_with (first
                | (go_at_call 21; refine HDE.out.mono ?_; rintro e w3 ⟨rfl, q3, HN3⟩)
                | (go_at_call 22; refine (HDG.out _).mono ?_; rintro e w5 ⟨rfl, hb5⟩; have HN : Hid (GnR w w5 gs i0 (j + 1) g q3 x' gv qv V m (tx ++ 42 :: 32 :: (D ++ [32, 69, 88, 80, 85, 78, 71, 69, 13, 10]))) := Lib.hid ⟨HN3.out.own.later hb5, HN3.out.st, HN3.out.view.later hb5, HN3.out.left, HN3.out.want⟩; clear hb5)
                | fail)
              refine ⟨?_, by simp [intOf]; omega⟩
              first | exact ⟨j + 1, m, x', q3, _, by omega, by omega, rfl, rfl, by go_num, HN⟩ | ((repeat apply Exists.intro); exact ⟨⟨j + 1, m, x', q3, _, by omega, by omega, rfl, rfl, by go_num, HN⟩, rfl⟩)
            | false =>
              have HN : Hid (GnR w wr gs i0 (j + 1) g q1 x gv qv V (m + 1) tx) := Lib.hid ⟨HU.out.own, HU.out.st.stay hgb, HU.out.view, by rw [idsK_succ, hgb, List.length_append, ← HU.out.left]; rfl, by
                show _ = wantG gs j ++ (if goneAt gs (j + 1) then sayT ((idsK gs j).length + 1) expungeT else [])
                rw [hgb, if_neg (by decide), List.append_nil]
                exact HU.out.want⟩
              clear hgb
              go_wp2_with fail
              refine ⟨?_, by simp [intOf]; omega⟩
              first | exact ⟨j + 1, m + 1, x, q1, tx, by omega, by omega, rfl, by go_num, by go_num, HN⟩ | ((repeat apply Exists.intro); exact ⟨⟨j + 1, m + 1, x, q1, tx, by omega, by omega, rfl, by go_num, by go_num, HN⟩, rfl⟩)
          · have hlz : ¬ (j : Int) + 1 ≤ (ng : Int) := by omega
            have hgb : goneAt gs (j + 1) = false := by
              unfold goneAt
              rw [show j + 1 - 1 = j by omega, List.getElem?_eq_none (by rw [HNG.out]; omega)]
              rfl
            have HN : Hid (GnR w wr gs i0 (j + 1) g q1 x gv qv V (m + 1) tx) := Lib.hid ⟨HU.out.own, HU.out.st.stay hgb, HU.out.view, by rw [idsK_succ, hgb, List.length_append, ← HU.out.left]; rfl, by
              show _ = wantG gs j ++ (if goneAt gs (j + 1) then sayT ((idsK gs j).length + 1) expungeT else [])
              rw [hgb, if_neg (by decide), List.append_nil]
              exact HU.out.want⟩
            clear hgb
            go_wp2_with fail
            refine ⟨?_, by simp [intOf]; omega⟩
            first | exact ⟨j + 1, m + 1, x, q1, tx, by omega, by omega, rfl, by go_num, by go_num, HN⟩ | ((repeat apply Exists.intro); exact ⟨⟨j + 1, m + 1, x, q1, tx, by omega, by omega, rfl, by go_num, by go_num, HN⟩, rfl⟩)
        · have hle2 : ¬ (j : Int) + 1 ≤ (i0 : Int) := by omega
          have hjk : j = i0 := by omega
          subst hjk
          obtain ⟨c, hcc, hst⟩ := HU.out.st.st
          obtain ⟨x', hp, hst'⟩ := hst.app xT rfl headF_x (by omega) (by omega)
          have hmk : MsOk (msG gs j j) := msOk_G gs (by omega)
          have hmk' : MsOk (msG gs j j ++ [mailV xT (j + 1) (c + 2)]) := msOk_app (by omega) (by omega)
          obtain ⟨V2, hV2, hV2n⟩ := HTO.out (c + 2)
          have hup1 : ∀ wr g q gv qv, OwnStore w wr g q x → OwnView w wr gv qv V → Calls Tryz.prog 16 #[.pointer (some ⟨gv, 0, none⟩), .pointer (some ⟨g, 0, none⟩), .bool false] wr fun e w' => e = .returned (.string ⟨#[]⟩) ∧ ∃ qv', OwnStore w w' g q x ∧ OwnView w w' gv qv' V := fun wr g q gv qv hO hVV => by
            have h := upd_law hO hst.fit hVV hst.mails hmk HV1.out (by rw [HVN.out]; omega) HMU.out HTE.out false
            rw [HQU.out] at h
            exact h
          have hfin : wantG gs j ++ sayT (((idsK gs j).length : Int) + 1) existsT = tx ++ 42 :: 32 :: (D ++ [32, 69, 88, 73, 83, 84, 83, 13, 10]) := by
            rw [← HU.out.want, ← HU.out.left]
            unfold sayT
            rw [HDD.out]
            simp [existsT]
          have hup2 : ∀ wr g q gv qv, OwnStore w wr g q x' → OwnView w wr gv qv V → Calls Tryz.prog 16 #[.pointer (some ⟨gv, 0, none⟩), .pointer (some ⟨g, 0, none⟩), .bool true] wr fun e w' => e = .returned (.string ⟨(tx ++ 42 :: 32 :: (D ++ [32, 69, 88, 73, 83, 84, 83, 13, 10])).toArray⟩) ∧ ∃ qv', OwnStore w w' g q x' ∧ OwnView w w' gv qv' V2 := fun wr g q gv qv hO hVV => by
            have h := upd_law hO hst'.fit hVV hst'.mails hmk' HV1.out (by rw [HVN.out]; omega) HMU.out HTE.out true
            rw [hV2, hfin] at h
            exact h
          have hapl : ∀ wr g q, OwnStore w wr g q x → _ := fun wr g q hO => append_law hO hst.fit xT (by decide) hp
          obtain ⟨m1, hm1⟩ : ∃ m1 : Nat, (m : Int) + 1 = (m1 : Int) := ⟨m + 1, rfl⟩
          have hmw2 : IntKind.i64.wrap (m1 : Int) = (m1 : Int) := IntWalk.i64_in _ (by omega)
          have HDG1 := HDG
          rw [hm1] at HDG1
          clear HDG HDD hmw
          have hV2l : V2.l.length = m1 := by rw [hV2n, ← HU.out.left]; omega
          have HUP1 := Lib.hid hup1
          have HUP2 := Lib.hid hup2
          have HAPL := Lib.hid hapl
          have HV2L := Lib.hid hV2l
          clear hcc hst hp hst' hmk hmk' hV2 hV2n hup1 hup2 hapl hV2l hfin
          go_wp2_with (first
            | (go_at_call 16; refine (HUP2.out _ _ _ _ _ HO7.out HV7.out).mono ?_; rintro e w8 ⟨rfl, qv8, ho, hv⟩; have HO8 := Lib.hid ho; have HV8 := Lib.hid hv; clear ho hv)
            | (go_at_call 16; refine (HUP1.out _ _ _ _ _ HU.out.own HU.out.view).mono ?_; rintro e w4 ⟨rfl, qv4, ho, hv⟩; have HO4 := Lib.hid ho; have HV4 := Lib.hid hv; clear ho hv)
            | (go_at_call 20; refine (HAPL.out _ _ _ HO4.out).mono ?_; rintro e w5 ⟨rfl, q5, ho, hv⟩; have HO5 := Lib.hid ho; have HV5 := Lib.hid (hv _ _ _ HV4.out); clear ho hv)
            | (go_at_call 22; refine (HDG1.out _).mono ?_; rintro e w6 ⟨rfl, hb⟩; have HO6 := Lib.hid (HO5.out.later hb); have HV6 := Lib.hid (HV5.out.later hb); clear hb)
            | (go_at_call 14; refine (uids_any _ _ _ _ HV8.out.at_ m1 HV2L.out (by omega)).mono ?_; rintro e w9 ⟨A9, c9, h9, rfl, _, _, hb⟩; have HO9 := Lib.hid (HO8.out.later hb); clear hb)
            | (go_at_call 14; refine (uids_any _ _ _ _ HV6.out.at_ j HVN.out (by omega)).mono ?_; rintro e w7 ⟨A7, c7, h7, rfl, _, _, hb⟩; have HO7 := Lib.hid (HO6.out.later hb); have HV7 := Lib.hid (HV6.out.later hb); clear hb)
            | (go_at_call 10; refine (HAW.out _ HO9.out.below).mono ?_; rintro e w11 ⟨rfl, hb⟩; have HB11 := Lib.hid (below_then HO9.out.below hb); clear hb)
            | fail)
          go_ret
          exact ⟨rfl, HB11.out⟩

end Go.Proofs.YtgkfknbhkonfdaaGreatDoor
