/-
  The walk of pillarboxlaw24.ViewNew.
-/
import Derived.Test.YtgkfknbhkonfdaaGreatDoorViewLoopsM
namespace Go.Proofs.YtgkfknbhkonfdaaGreatDoor
open Go.Shelf Go.RowKit Go.Lib
attribute [local go_sem ↓] Go.wp_at_zero Go.wp_at_succ

structure NwR (w wr : World) (gs : List Bool) (k i : Nat) (g : Nat) (q : Lies) (x : Acc) (u8 u9 : Value) (h8 h9 : Option Nat) (n8 : Nat) : Prop where
  own : OwnStore w wr g q x
  st : GoSt x gs k i
  l8 : OwnInts w wr u8 h8 n8 (idsK gs i)
  l9 : OwnInts w wr u9 h9 n8 (idsK gs i)
  ne : ∀ b, h8 = some b → h9 ≠ some b

set_option maxRecDepth 100000 in
set_option maxHeartbeats 8000000 in
theorem viewNew_any (n : Nat) (hn : n ≤ 255) (va : Value) (gs : List Bool) (w : World) (hr : RdS w [] 1 va gs.length (gs.map Value.bool)) (ht : TensV w) :
    Calls Tryz.prog 6 #[.int .u8 n, va] w fun e w' => e = .returned (.bool true) ∧ Below w.heap.size w w' := by
  obtain ⟨k, hk, hk20⟩ : ∃ k : Nat, (n : Int) % 20 = (k : Int) ∧ k ≤ 19 := ⟨n % 20, by omega, by omega⟩
  have hwg : IntKind.i64.wrap (n : Int) = (n : Int) := IntWalk.i64_in _ (by omega)
  obtain ⟨i0', hi', hz0, hz1, hz2⟩ := info_parts Try.infoIntV
  obtain ⟨Ag, cg, rfl, _, _⟩ := hr.form
  obtain ⟨ng, hng⟩ : ∃ ng, gs.length = ng := ⟨_, rfl⟩
  rw [hng] at hr
  have HNG := Lib.hid hng
  try rw [hng]
  have haw : ∀ W, Below w.heap.size w W → _ := fun W hb => awakeV_any W (ht.later hb)
  have HAW := Lib.hid haw
  have HR := Lib.hid hr
  have HTE := Lib.hid ht
  have hngb : ng ≤ maxLen := by
    obtain ⟨A, c, hv, h1, h2⟩ := hr.form
    omega
  have hngb2 : ng ≤ 9223372036854775807 := by unfold maxLen at hngb; omega
  clear haw hr hng ht hngb
  go_enter Tryz.func6, Tryz.ntmps6
  go_upto_block 0 with (first
    | (go_at_call 11; refine (begun_any _).mono ?_; rintro e w1 ⟨g, q, g2, rfl, ho⟩; have HO1 := Lib.hid ho; clear ho)
    | fail)
  try rw [hk]
  clear hk hwg
  have HS0 : Hid (OwnStore w w1 g q (newP wideP) ∧ ViSt (newP wideP) 0 0 (msK 0)) := Lib.hid ⟨HO1.out, viSt_new⟩
  go_wp2_with fail
  go_loopw [10] (fun i wr => ∃ (i0 : Nat) (x : Acc) (q1 : Lies), i0 ≤ k ∧ i = .int .i64 ((i0 : Int) + 1) ∧ Hid (OwnStore w wr g q1 x ∧ ViSt x i0 i0 (msK i0))) (fun i _ => k + 1 - (intOf i).toNat)
  case atStart => exact ⟨0, _, q, Nat.zero_le _, rfl, HS0⟩
  case round =>
    clear HS0
    obtain ⟨i0, x, q1, hi0, rfl, HU⟩ := hrel
    have hiw : IntKind.i64.wrap ((i0 : Int) + 1 + 1) = (i0 : Int) + 1 + 1 := IntWalk.i64_in _ (by omega)
    by_cases hlt : i0 < k
    · have hle : (i0 : Int) + 1 ≤ (k : Int) := by omega
      obtain ⟨x', hp, hs'⟩ := app_step HU.out.2 (by omega)
      have hA := append_law HU.out.1 HU.out.2.fit xT (by decide) hp
      have HA := Lib.hid hA
      have HSX := Lib.hid hs'
      clear hA hp hs'
      go_wp2_with (first
        | (go_at_call 20; refine HA.out.mono ?_; rintro e w3 ⟨rfl, q3, ho, _⟩; have HN : Hid (OwnStore w w3 g q3 x' ∧ ViSt x' (i0 + 1) (i0 + 1) (msK (i0 + 1))) := Lib.hid ⟨ho, HSX.out⟩; clear ho)
        | fail)
      refine ⟨?_, by simp [intOf]; omega⟩
      first | exact ⟨i0 + 1, x', q3, by omega, by go_num, HN⟩ | ((repeat apply Exists.intro); exact ⟨⟨i0 + 1, x', q3, by omega, by go_num, HN⟩, rfl⟩)
    · have hle : ¬ (i0 : Int) + 1 ≤ (k : Int) := by omega
      have hik : i0 = k := by omega
      subst hik
      have HR0 : Hid (NwR w wr gs i0 0 g q1 x (.slice none 0 0) (.slice none 0 0) none none 0) := Lib.hid ⟨HU.out.1, GoSt.start gs HU.out.2, OwnInts.nil _ _, OwnInts.nil _ _, fun b hb => by cases hb⟩
      go_upto_block 2 with (fail)
      go_wp2_with fail
      go_loopw [8, 9, 11] (fun u8 u9 i wr => ∃ (j n8 : Nat) (x : Acc) (q1 : Lies) (h8 h9 : Option Nat), j ≤ i0 ∧ n8 ≤ j ∧ i = .int .i64 ((j : Int) + 1) ∧ Hid (NwR w wr gs i0 j g q1 x u8 u9 h8 h9 n8)) (fun _ _ i _ => i0 + 1 - (intOf i).toNat)
      case atStart => exact ⟨0, 0, x, q1, none, none, Nat.zero_le _, Nat.zero_le _, rfl, HR0⟩
      case round =>
        clear HR0 HU
        obtain ⟨j, n8, x, q1, h8, h9, hj, hn8, rfl, HU⟩ := hrel
        have hjw : IntKind.i64.wrap ((j : Int) + 1 + 1) = (j : Int) + 1 + 1 := IntWalk.i64_in _ (by omega)
        by_cases hltj : j < i0
        · have hle2 : (j : Int) + 1 ≤ (i0 : Int) := by omega
          have hj0 : (0 : Int) ≤ (j : Int) := by omega
          have hjm : (j : Int) + 1 - 1 = (j : Int) := by omega
          have hjb : (j : Int) ≤ 100 := by omega
          by_cases hjl : j < ng
          · have hlz : (j : Int) + 1 ≤ (ng : Int) := by omega
            have hjg : j < gs.length := by rw [HNG.out]; exact hjl
            obtain ⟨ba, oa, ca, hva, _, _, hbla, _, hata⟩ := HR.out.at_ (by omega)
            injection hva with hva1 _ hva3
            subst hva1 hva3
            obtain ⟨gb, hgb0⟩ : ∃ gb, gs[j] = gb := ⟨_, rfl⟩
            have hgb : goneAt gs (j + 1) = gb := by
              unfold goneAt
              rw [show j + 1 - 1 = j by omega, List.getElem?_eq_getElem hjg, hgb0]
              rfl
            have d0 : wr.cell? ⟨ba, oa + j, none⟩ = some (.bool gb) := (HU.out.own.below.cell (p := ⟨ba, oa + j, none⟩) hbla).trans ((hata j (by omega)).trans (by rw [List.getElem?_map, List.getElem?_eq_getElem hjg, hgb0]; rfl))
            clear hata hgb0
            cases gb with
            | true =>
              obtain ⟨x', hp, hs'⟩ := HU.out.st.go hltj (by omega) hgb
              have hf : Fit x := by
                obtain ⟨c, _, hs⟩ := HU.out.st.st
                exact hs.fit
              have hD := destroy_turned HU.out.own hf hp
              have hids : idsK gs (j + 1) = idsK gs j := by rw [idsK_succ, hgb]; simp
              have HD : Hid (Calls Tryz.prog 21 #[.pointer (some ⟨g, 0, none⟩), .int .i64 ((j : Int) + 1)] wr fun e w' => e = .returned (.int .i64 0) ∧ ∃ q', Hid (NwR w w' gs i0 (j + 1) g q' x' u8 u9 h8 h9 n8)) := Lib.hid (hD.mono fun e w' ⟨he, q', h1, h2⟩ => ⟨he, q', Lib.hid ⟨h1, hs', by rw [hids]; exact HU.out.l8.stored HU.out.own.at_ h2, by rw [hids]; exact HU.out.l9.stored HU.out.own.at_ h2, HU.out.ne⟩⟩)
              clear hD hp hs' hf hids hgb
              go_wp2_with (first
                | (go_at_call 21; refine HD.out.mono ?_; rintro e w3 ⟨rfl, q3, HN⟩)
                | fail)
              refine ⟨?_, by simp [intOf]; omega⟩
              first | exact ⟨j + 1, n8, x', q3, h8, h9, by omega, by omega, by go_num, HN⟩ | ((repeat apply Exists.intro); exact ⟨⟨j + 1, n8, x', q3, h8, h9, by omega, by omega, by go_num, HN⟩, rfl⟩)
            | false =>
              have HST : Hid (GoSt x gs i0 (j + 1)) := Lib.hid (HU.out.st.stay hgb)
              have hids : idsK gs (j + 1) = idsK gs j ++ [((j + 1 : Nat) : Int)] := by rw [idsK_succ, hgb]; rfl
              obtain ⟨A8, c8, rfl, _, _⟩ := HU.out.l8.sl.form
              obtain ⟨A9, c9, rfl, _, _⟩ := HU.out.l9.sl.form
              have HS8 := Lib.hid HU.out.l8.sl
              have hpush8 : ∀ (W2 : World) (v2 : Value) (h2 : Option Nat), Sl W2 3 1 v2 h2 (n8 + 1) ((idsK gs j).map encI ++ [.int .i64 ((j : Int) + 1)]) → Chg h8.toList wr W2 → (h2 = h8 ∨ ∃ g, h2 = some g ∧ wr.heap.size ≤ g) → OwnStore w W2 g q1 x ∧ OwnInts w W2 v2 h2 (n8 + 1) (idsK gs (j + 1)) ∧ OwnInts w W2 (.slice A9 n8 c9) h9 n8 (idsK gs j) ∧ (∀ b, h2 = some b → h9 ≠ some b) := fun W2 v2 h2 k1 k2 k3 => by
                refine ⟨HU.out.own.inted HU.out.l8 k2, by rw [hids]; exact HU.out.l8.push (Below.refl _ _) HU.out.own.below.size k1 k3, HU.out.l9.other (fun b hb e => HU.out.ne b e hb) k2 HU.out.l8, fun b hb e => ?_⟩
                rcases k3 with h3 | ⟨g, h3, h4⟩
                · exact HU.out.ne b (h3 ▸ hb) e
                · rw [h3] at hb
                  obtain rfl := Option.some.inj hb
                  have := HU.out.l9.sl.lt _ e
                  omega
              have HP8 := Lib.hid hpush8
              have HIDS := Lib.hid hids
              clear hpush8 hids hgb
              go_wp2_with (first
                | (at_builtin; refine wpList_append_sl rfl _ _ 35 rfl Tryz.underlying35 hi' hz0 hz1 hz2 rfl (by decide) HS8.out rfl 1 1 rfl rfl ?_ ?_ ?_ ?_)
                | fail)
              · simp [Value.oneCell']
              · unfold maxLen
                omega
              · omega
              · intro v5 h5 w5 hs5 hc5 ho5
                obtain ⟨k1, k2, k3, k4⟩ := HP8.out w5 v5 h5 hs5 hc5 ho5
                obtain ⟨A5, c5, rfl, _, _⟩ := hs5.form
                have HS9 := Lib.hid k3.sl
                have HP9 : Hid (∀ (W2 : World) (v2 : Value) (h2 : Option Nat), Sl W2 3 1 v2 h2 (n8 + 1) ((idsK gs j).map encI ++ [.int .i64 ((j : Int) + 1)]) → Chg h9.toList w5 W2 → (h2 = h9 ∨ ∃ g, h2 = some g ∧ w5.heap.size ≤ g) → NwR w W2 gs i0 (j + 1) g q1 x (.slice A5 (n8 + 1) c5) v2 h5 h2 (n8 + 1)) := Lib.hid (fun W2 v2 h2 m1 m2 m3 => by
                  refine ⟨k1.inted k3 m2, HST.out, k2.other k4 m2 k3, by rw [HIDS.out]; exact k3.push (Below.refl _ _) k1.below.size m1 m3, fun b hb e => ?_⟩
                  rcases m3 with h3 | ⟨g, h3, h4⟩
                  · exact k4 b hb (h3 ▸ e)
                  · rw [h3] at e
                    obtain rfl := Option.some.inj e
                    have := k2.sl.lt _ hb
                    omega)
                clear hs5 hc5 ho5 k1 k2 k3 k4
                go_wp2_with (first
                  | (at_builtin; refine wpList_append_sl rfl _ _ 35 rfl Tryz.underlying35 hi' hz0 hz1 hz2 rfl (by decide) HS9.out rfl 1 1 rfl rfl ?_ ?_ ?_ ?_)
                  | fail)
                · simp [Value.oneCell']
                · unfold maxLen
                  omega
                · omega
                · intro v6 h6 w6 hs6 hc6 ho6
                  have HN := Lib.hid (HP9.out w6 v6 h6 hs6 hc6 ho6)
                  clear hs6 hc6 ho6
                  go_wp2_with fail
                  refine ⟨?_, by simp [intOf]; omega⟩
                  first | exact ⟨j + 1, n8 + 1, x, q1, h5, h6, by omega, by omega, by go_num, HN⟩ | ((repeat apply Exists.intro); exact ⟨⟨j + 1, n8 + 1, x, q1, h5, h6, by omega, by omega, by go_num, HN⟩, rfl⟩)
          · have hlz : ¬ (j : Int) + 1 ≤ (ng : Int) := by omega
            have hgb : goneAt gs (j + 1) = false := by
              unfold goneAt
              rw [show j + 1 - 1 = j by omega, List.getElem?_eq_none (by rw [HNG.out]; omega)]
              rfl
            have HST : Hid (GoSt x gs i0 (j + 1)) := Lib.hid (HU.out.st.stay hgb)
            have hids : idsK gs (j + 1) = idsK gs j ++ [((j + 1 : Nat) : Int)] := by rw [idsK_succ, hgb]; rfl
            obtain ⟨A8, c8, rfl, _, _⟩ := HU.out.l8.sl.form
            obtain ⟨A9, c9, rfl, _, _⟩ := HU.out.l9.sl.form
            have HS8 := Lib.hid HU.out.l8.sl
            have hpush8 : ∀ (W2 : World) (v2 : Value) (h2 : Option Nat), Sl W2 3 1 v2 h2 (n8 + 1) ((idsK gs j).map encI ++ [.int .i64 ((j : Int) + 1)]) → Chg h8.toList wr W2 → (h2 = h8 ∨ ∃ g, h2 = some g ∧ wr.heap.size ≤ g) → OwnStore w W2 g q1 x ∧ OwnInts w W2 v2 h2 (n8 + 1) (idsK gs (j + 1)) ∧ OwnInts w W2 (.slice A9 n8 c9) h9 n8 (idsK gs j) ∧ (∀ b, h2 = some b → h9 ≠ some b) := fun W2 v2 h2 k1 k2 k3 => by
              refine ⟨HU.out.own.inted HU.out.l8 k2, by rw [hids]; exact HU.out.l8.push (Below.refl _ _) HU.out.own.below.size k1 k3, HU.out.l9.other (fun b hb e => HU.out.ne b e hb) k2 HU.out.l8, fun b hb e => ?_⟩
              rcases k3 with h3 | ⟨g, h3, h4⟩
              · exact HU.out.ne b (h3 ▸ hb) e
              · rw [h3] at hb
                obtain rfl := Option.some.inj hb
                have := HU.out.l9.sl.lt _ e
                omega
            have HP8 := Lib.hid hpush8
            have HIDS := Lib.hid hids
            clear hpush8 hids hgb
            go_wp2_with (first
              | (at_builtin; refine wpList_append_sl rfl _ _ 35 rfl Tryz.underlying35 hi' hz0 hz1 hz2 rfl (by decide) HS8.out rfl 1 1 rfl rfl ?_ ?_ ?_ ?_)
              | fail)
            · simp [Value.oneCell']
            · unfold maxLen
              omega
            · omega
            · intro v5 h5 w5 hs5 hc5 ho5
              obtain ⟨k1, k2, k3, k4⟩ := HP8.out w5 v5 h5 hs5 hc5 ho5
              obtain ⟨A5, c5, rfl, _, _⟩ := hs5.form
              have HS9 := Lib.hid k3.sl
              have HP9 : Hid (∀ (W2 : World) (v2 : Value) (h2 : Option Nat), Sl W2 3 1 v2 h2 (n8 + 1) ((idsK gs j).map encI ++ [.int .i64 ((j : Int) + 1)]) → Chg h9.toList w5 W2 → (h2 = h9 ∨ ∃ g, h2 = some g ∧ w5.heap.size ≤ g) → NwR w W2 gs i0 (j + 1) g q1 x (.slice A5 (n8 + 1) c5) v2 h5 h2 (n8 + 1)) := Lib.hid (fun W2 v2 h2 m1 m2 m3 => by
                refine ⟨k1.inted k3 m2, HST.out, k2.other k4 m2 k3, by rw [HIDS.out]; exact k3.push (Below.refl _ _) k1.below.size m1 m3, fun b hb e => ?_⟩
                rcases m3 with h3 | ⟨g, h3, h4⟩
                · exact k4 b hb (h3 ▸ e)
                · rw [h3] at e
                  obtain rfl := Option.some.inj e
                  have := k2.sl.lt _ hb
                  omega)
              clear hs5 hc5 ho5 k1 k2 k3 k4
              go_wp2_with (first
                | (at_builtin; refine wpList_append_sl rfl _ _ 35 rfl Tryz.underlying35 hi' hz0 hz1 hz2 rfl (by decide) HS9.out rfl 1 1 rfl rfl ?_ ?_ ?_ ?_)
                | fail)
              · simp [Value.oneCell']
              · unfold maxLen
                omega
              · omega
              · intro v6 h6 w6 hs6 hc6 ho6
                have HN := Lib.hid (HP9.out w6 v6 h6 hs6 hc6 ho6)
                clear hs6 hc6 ho6
                go_wp2_with fail
                refine ⟨?_, by simp [intOf]; omega⟩
                first | exact ⟨j + 1, n8 + 1, x, q1, h5, h6, by omega, by omega, by go_num, HN⟩ | ((repeat apply Exists.intro); exact ⟨⟨j + 1, n8 + 1, x, q1, h5, h6, by omega, by omega, by go_num, HN⟩, rfl⟩)
        · have hle2 : ¬ (j : Int) + 1 ≤ (i0 : Int) := by omega
          have hjk : j = i0 := by omega
          subst hjk
          obtain ⟨c, hcc, hst⟩ := HU.out.st.st
          have hf := hst.fit
          have hmk : MsOk (msG gs j j) := msOk_G gs (by omega)
          have hlen8 : (idsK gs j).length = n8 := by
            have h1 := HU.out.l8.sl.1
            simpa using h1
          obtain ⟨v1, v2, _, _⟩ := new_view (ms := msG gs j j) (k := j) (by omega) fun m hm => by
            obtain ⟨i, hi, e⟩ := msK_id (msG_sub hm)
            rw [e]
            omega
          have hstill := fun all => viewNew_still flagsF gs j all
          obtain ⟨V, hV⟩ : ∃ V, newV 1 (zsOf (msG gs j j)) = V := ⟨_, rfl⟩
          rw [hV] at v1 v2
          simp only [hV] at hstill
          have hvu : V.l.map (·.uid) = idsK gs j := by
            rw [v2, List.map_map, ← msG_ids]
            rfl
          have hvi : V.l.map (·.id) = idsK gs j := by
            rw [v2, List.map_map, ← msG_ids]
            rfl
          have hvn : V.l.length = n8 := by rw [← hlen8, ← hvu, List.length_map]
          have hmu : ∀ m ∈ V.l, m.uid ≤ 4294967296 := fun m hm => by
            rw [v2] at hm
            obtain ⟨y, hy, rfl⟩ := List.mem_map.1 hm
            exact (hmk.num y hy).1
          have hnw : Calls Tryz.prog 12 #[.pointer (some ⟨g, 0, none⟩), .int .i64 1] wr fun e w' => ∃ gv qv, e = .returned (.tuple #[.pointer (some ⟨gv, 0, none⟩), .int .i64 0]) ∧ OwnStore w w' g q1 x ∧ OwnView w w' gv qv V ∧ Below wr.heap.size wr w' := by
            have hl := hmk.len
            have h1 := hf.nb
            have h2 := hf.clock
            have h3 := hf.cfg.mod
            refine (newView_any wr g q1 x HU.out.own.at_ hf.smallV (by omega) 1 hst.has (zsOf (msG gs j j)) (by rw [hst.mails, thereL_one hmk.one]; exact List.Perm.refl _) hmk.rise (by omega)).mono ?_
            rintro e w' ⟨gv, qv, rfl, hv, hb⟩
            rw [hV] at hv
            exact ⟨gv, qv, rfl, HU.out.own.later hb, ⟨hv.at_, fun k hk => Nat.le_trans HU.out.own.below.size (hv.own k hk)⟩, hb⟩
          have hup : ∀ all wr g q gv qv, OwnStore w wr g q x → OwnView w wr gv qv V → Calls Tryz.prog 16 #[.pointer (some ⟨gv, 0, none⟩), .pointer (some ⟨g, 0, none⟩), .bool all] wr fun e w' => e = .returned (.string ⟨#[]⟩) ∧ ∃ qv', OwnStore w w' g q x ∧ OwnView w w' gv qv' V := fun all wr g q gv qv hO hVV => by
            have h := upd_law hO hf hVV hst.mails hmk v1 (by omega) hmu HTE.out all
            rw [hstill all] at h
            exact h
          have HNW := Lib.hid hnw
          have HUP := Lib.hid hup
          have HL8 : Hid (∀ W, Below wr.heap.size wr W → RdS W [] 1 u8 n8 ((idsK gs j).map encI)) := Lib.hid (fun W hb => (HU.out.l8.later hb).sl.reads [] (by simp))
          have HL9 : Hid (∀ W, Below wr.heap.size wr W → RdS W [] 1 u9 n8 ((idsK gs j).map encI)) := Lib.hid (fun W hb => (HU.out.l9.later hb).sl.reads [] (by simp))
          have HVU := Lib.hid hvu
          have HVI := Lib.hid hvi
          have HVN := Lib.hid hvn
          have HV1 := Lib.hid v1
          have HLE := Lib.hid hlen8
          clear hcc hst hf hmk hlen8 v1 v2 hstill hV hvu hvi hvn hmu hnw hup
          go_wp2_with (first
            | (go_at_call 12; refine HNW.out.mono ?_; rintro e w4 ⟨gv, qv, rfl, ho, hv, hb⟩; have HO4 := Lib.hid ho; have HV4 := Lib.hid hv; have HB4 := Lib.hid hb; clear ho hv hb)
            | (go_at_call 13; refine (num_any _ _).mono ?_; rintro e wn ⟨rfl, rfl⟩)
            | (go_at_call 14; refine (uids_any _ _ _ _ HV4.out.at_ n8 HVN.out (by omega)).mono ?_; rintro e w5 ⟨A5, c5, h5, rfl, hs5, _, hb5⟩; rw [HVU.out] at hs5; have HS5 := Lib.hid (hs5.reads [] (by simp)); have HB5 := Lib.hid hb5; have HX5 := Lib.hid (below_then HB4.out hb5); clear hs5 hb5)
            | (go_at_call 26; refine (ids_any _ _ _ _ (HV4.out.at_.later (below_then HB5.out HB6.out)) n8 HVN.out (by omega)).mono ?_; rintro e w7 ⟨A7, c7, h7, rfl, hs7, _, hb7⟩; rw [HVI.out] at hs7; have HS7 := Lib.hid (hs7.reads [] (by simp)); have HB7 := Lib.hid hb7; have HX7 := Lib.hid (below_then HX6.out hb7); clear hs7 hb7)
            | (go_at_call 18; refine (ints_same _ _ _ n8 _ HLE.out HS7.out (HL9.out _ HX7.out)).mono ?_; rintro e w8 ⟨rfl, hb8⟩; have HZ8 := Lib.hid (below_then HB5.out (below_then HB6.out (below_then HB7.out hb8))); have HO8 := Lib.hid (HO4.out.later HZ8.out); have HV8 := Lib.hid (HV4.out.later HZ8.out); clear hb8)
            | (go_at_call 18; refine (ints_same _ _ _ n8 _ HLE.out HS5.out (HL8.out _ HX5.out)).mono ?_; rintro e w6 ⟨rfl, hb6⟩; have HB6 := Lib.hid hb6; have HX6 := Lib.hid (below_then HX5.out hb6); clear hb6)
            | (go_at_call 27; refine (boxV_any _ _ _ _ HV8.out.at_).mono ?_; rintro e wn ⟨rfl, rfl⟩; rw [HV1.out])
            | (go_at_call 16; refine (HUP.out false _ _ _ _ _ HO9.out HV9.out).mono ?_; rintro e w10 ⟨rfl, qv10, ho, hv⟩; have HO10 := Lib.hid ho; clear ho hv)
            | (go_at_call 16; refine (HUP.out true _ _ _ _ _ HO8.out HV8.out).mono ?_; rintro e w9 ⟨rfl, qv9, ho, hv⟩; have HO9 := Lib.hid ho; have HV9 := Lib.hid hv; clear ho hv)
            | (go_at_call 10; refine (HAW.out _ HO10.out.below).mono ?_; rintro e w11 ⟨rfl, hb⟩; have HB11 := Lib.hid (below_then HO10.out.below hb); clear hb)
            | fail)
          go_ret
          exact ⟨rfl, HB11.out⟩

end Go.Proofs.YtgkfknbhkonfdaaGreatDoor
