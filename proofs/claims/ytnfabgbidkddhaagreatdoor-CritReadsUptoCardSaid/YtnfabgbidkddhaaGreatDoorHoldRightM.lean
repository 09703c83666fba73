/-
  The walk of seek.Right: whether a filter may be; nothing that was there turns.
-/
import Derived.Test.YtnfabgbidkddhaaGreatDoorGRF
import Derived.OwnWalk
import Derived.Laws.OwnMore
namespace Go.Proofs.YtnfabgbidkddhaaGreatDoor
open Go.RowKit
attribute [local go_sem ↓] Go.wp_at_zero Go.wp_at_succ

/-- A filter's terms, in memory that was there. -/
def FAt (w : World) (v : Value) (f : Out) : Prop := ∃ hb xs F, Sl w 57 6 v hb f.length xs ∧ OutAt w F f xs
theorem FAt.below {w w' : World} {v : Value} {f : Out} (h : FAt w v f) (hb : Below w.heap.size w w') : FAt w' v f := by
  obtain ⟨o, xs, F, h1, h2⟩ := h
  exact ⟨o, xs, F, h1.chg (Chg.of_below hb []) (by simp), OutAt.keep (fun b e cs hB _ => hb.block b hB.lt) _ _ h2⟩
theorem OutAt.get {w : World} {F : Nat → Prop} : ∀ (l : Out) (xs : List Value), OutAt w F l xs → ∀ i, ∀ (h : i < l.length), ∃ sv kv, (∀ c, c < 6 → xs[i * 6 + c]? = (TmCells l[i] sv kv)[c]?) ∧ TmOk w F l[i] sv kv
  | [], _, _, i, h => absurd h (by simp)
  | t :: ts, xs, ⟨sv, kv, rest, h1, h2, h3⟩, i, h => by
    have hl : (TmCells t sv kv).length = 6 := rfl
    cases i with
    | zero =>
      refine ⟨sv, kv, fun c hc => ?_, h2⟩
      rw [h1, List.getElem?_append_left (by omega)]
      simp
    | succ i =>
      obtain ⟨sv', kv', g1, g2⟩ := OutAt.get ts rest h3 i (by simpa using h)
      refine ⟨sv', kv', fun c hc => ?_, g2⟩
      rw [h1, List.getElem?_append_right (by omega), show (i + 1) * 6 + c - (TmCells t sv kv).length = i * 6 + c from by omega]
      exact g1 c hc
theorem FAt.form {w : World} {v : Value} {f : Out} (h : FAt w v f) : ∃ A cap, v = .slice A f.length cap ∧ f.length ≤ cap ∧ cap ≤ maxLen := by
  obtain ⟨o, xs, F, h1, h2⟩ := h
  exact h1.form
theorem FAt.at_ {w : World} {v : Value} {f : Out} (h : FAt w v f) (i : Nat) (hi : i < f.length) : ∃ b off cap sv kv F, v = .slice (some ⟨b, off, none⟩) f.length cap ∧ b < w.heap.size ∧
    w.cell? ⟨b, off + i * 6, none⟩ = some (.int .i64 f[i].kind) ∧ w.cell? ⟨b, off + i * 6 + 1, none⟩ = some (.int .i64 f[i].n) ∧ w.cell? ⟨b, off + i * 6 + 2, none⟩ = some (.string f[i].name) ∧
    w.cell? ⟨b, off + i * 6 + 3, none⟩ = some (.string f[i].text) ∧ w.cell? ⟨b, off + i * 6 + 4, none⟩ = some sv ∧ w.cell? ⟨b, off + i * 6 + 5, none⟩ = some kv ∧ TmOk w F f[i] sv kv := by
  obtain ⟨o, xs, F, h1, h2⟩ := h
  obtain ⟨b, off, cap, _, hv, _, _, hlt, hat⟩ := h1.at_ (by omega)
  obtain ⟨sv, kv, hc, hok⟩ := OutAt.get f xs h2 i hi
  have hx : ∀ c, c < 6 → w.cell? ⟨b, off + i * 6 + c, none⟩ = (TmCells f[i] sv kv)[c]? := fun c hcc => by
    rw [← hc c hcc, show off + i * 6 + c = off + (i * 6 + c) from by omega]
    exact (hat (i * 6 + c) (by omega)).1
  exact ⟨b, off, cap, sv, kv, F, hv, hlt, hx 0 (by omega), hx 1 (by omega), hx 2 (by omega), hx 3 (by omega), hx 4 (by omega), hx 5 (by omega), hok⟩

/-- The kids of the term i counted. -/
def kidsGo (i : Nat) : List Int → List Int → Option (List Int)
  | [], c => some c
  | k :: ks, c => if k < 0 ∨ (i : Int) ≤ k then none else kidsGo i ks (c.set k.toNat (c.getD k.toNat 0 + 1))
def rightGo : Nat → Out → List Int → Option (List Int)
  | _, [], c => some c
  | i, t :: ts, c => if t.kind < 1 ∨ 16 < t.kind then none else match kidsGo i t.kids c with
    | none => none
    | some c' => rightGo (i + 1) ts c'
def rightP (f : Out) : Bool := if 40 < f.length then false else match rightGo 0 f (List.replicate f.length 0) with
  | none => false
  | some c => c.dropLast.all (· == 1)
theorem kidsGo_len (i : Nat) : ∀ (ks c : List Int) (c' : List Int), kidsGo i ks c = some c' → c'.length = c.length
  | [], c, c', h => by
    injection h with h
    rw [h]
  | k :: ks, c, c', h => by
    unfold kidsGo at h
    split at h
    · cases h
    · have := kidsGo_len i ks _ c' h
      simpa using this

theorem madeC (n : Nat) : (madeCells #[.int .i64 0] n).toList = intC (List.replicate n 0) := by
  rw [toList_madeCells_one]
  simp [intC]

/-- What the inner loop keeps. -/
structure RIn (w wr : World) (g N : Nat) (i : Nat) (tl : List Int) (D : Option (List Int)) (q : Nat) (c : List Int) : Prop where
  sl : Sl wr 3 1 (.slice (some ⟨g, 0, none⟩) N N) (some g) N (intC c)
  bel : Below w.heap.size w wr
  go : D = kidsGo i (tl.drop q) c
  small : ∀ x ∈ c, 0 ≤ x ∧ x ≤ (i : Int) * 140737488355328 + q
  len : c.length = N
theorem RIn.step {w wr : World} {g N i : Nat} {tl : List Int} {D : Option (List Int)} {q : Nat} {c : List Int} (p : RIn w wr g N i tl D q c) (hq : q < tl.length) {j : Nat} (hj : tl[q] = (j : Int)) (hji : j < i) (_ : j < N) (hg : w.heap.size ≤ g) {x : Int} (hx : c[j]? = some x) :
    RIn w (wr.setCell ⟨g, j, none⟩ (.int .i64 (x + 1))) g N i tl D (q + 1) (c.set j (x + 1)) := by
  refine ⟨?_, p.bel.trans (((Chg.refl [g] wr).set (p := ⟨g, j, none⟩) (.inl (by simp)) _).below p.bel.size (by simpa using hg)), ?_, ?_, by rw [List.length_set]; exact p.len⟩
  · have h1 := p.sl.store j (.int .i64 (x + 1))
    rw [Nat.zero_add] at h1
    have e : (intC c).set j (.int .i64 (x + 1)) = intC (c.set j (x + 1)) := by simp [intC, List.map_set]
    rw [e] at h1
    exact h1
  · rw [p.go, List.drop_eq_getElem_cons hq, hj]
    show (if (j : Int) < 0 ∨ (i : Int) ≤ (j : Int) then none else _) = _
    rw [if_neg (by omega)]
    have e : c.getD (j : Int).toNat 0 = x := by
      show c.getD j 0 = x
      rw [List.getD_eq_getElem?_getD, hx]
      rfl
    rw [e]
    rfl
  · intro y hy
    rcases List.mem_or_eq_of_mem_set hy with h1 | h1
    · have := p.small y h1
      omega
    · have := p.small x (List.mem_of_getElem? hx)
      omega
/-- What the outer loop keeps. -/
structure ROt (w wr : World) (g N : Nat) (f : Out) (R : Option (List Int)) (i : Nat) (c : List Int) : Prop where
  sl : Sl wr 3 1 (.slice (some ⟨g, 0, none⟩) N N) (some g) N (intC c)
  bel : Below w.heap.size w wr
  go : R = rightGo i (f.drop i) c
  small : ∀ x ∈ c, 0 ≤ x ∧ x ≤ (i : Int) * 140737488355328
  len : c.length = N

set_option maxRecDepth 100000 in
set_option maxHeartbeats 8000000 in
theorem right_anyH (w : World) (v : Value) (f : Out) (hf : FAt w v f) (hkids : ∀ t ∈ f, t.kids.length ≤ 1000000) : Calls Tryz.prog 17 #[v] w fun e w' => e = .returned (.bool (rightP f)) ∧ Below w.heap.size w w' := by
  obtain ⟨i0, hi, hz0, hz1, hz2⟩ := info_parts Tryz.infoInt
  obtain ⟨A, cap, hv, hc1, hc2⟩ := hf.form
  obtain ⟨r, hr⟩ : ∃ r, rightP f = r := ⟨_, rfl⟩
  rw [hr]
  obtain ⟨N, hN⟩ : ∃ N, f.length = N := ⟨_, rfl⟩
  rw [hN] at hv hc1
  unfold rightP at hr
  rw [hN] at hr
  have HKI := Lib.hid hkids
  clear hkids
  have HF := Lib.hid hf
  have HN := Lib.hid hN
  have HV := Lib.hid hv
  subst hv
  by_cases h40 : 40 < N
  · rw [if_pos h40] at hr
    subst hr
    clear hf hN
    go_enter Tryz.func17, Tryz.ntmps17
    go_wp2
    go_ret
    exact ⟨rfl, Below.refl _ _⟩
  · rw [if_neg h40] at hr
    obtain ⟨R, hR⟩ : ∃ R, rightGo 0 f (List.replicate N 0) = R := ⟨_, rfl⟩
    rw [hR] at hr
    have HR := Lib.hid hr
    have HGO := Lib.hid hR
    clear hf hN hr hR
    go_enter Tryz.func17, Tryz.ntmps17
    go_wp2_with (at_make; refine wpList_make_full _ rfl _ _ 23 rfl w.heap.size 3 i0 (.int .i64 0) 1 Tryz.underlying23 hi hz0 hz1 _ _ _ _ N rfl rfl rfl rfl ?c1 ?c2 ?c3 ?_)
    case c1 => first | omega | (rw [hz2]; omega)
    case c2 => unfold maxLen; omega
    intro w1 hown0 hg0
    have hsl0 : Sl w1 3 1 (.slice (some ⟨w.heap.size, 0, none⟩) N N) (some w.heap.size) N (intC (List.replicate N 0)) := by
      have h1 := Sl.of_own hown0
      rw [madeC] at h1
      exact h1
    have hb0 : Below w.heap.size w w1 := (Below.refl _ _).grown hg0 (Nat.le_refl _) (fun _ h => by cases h)
    obtain ⟨g, hg⟩ : ∃ g, w.heap.size = g := ⟨_, rfl⟩
    have HG := Lib.hid hg
    rw [hg] at hsl0
    have HP0 := Lib.hid (show ROt w w1 g N f R 0 (List.replicate N 0) from ⟨hsl0, hb0, HGO.out.symm, fun x hx => by rw [List.eq_of_mem_replicate hx]; decide, by simp⟩)
    rw [hg]
    clear hown0 hg0 hsl0 hb0 hg
    go_wp2
    go_loopw [17] (fun i wr => ∃ (k : Nat) (c : List Int), k ≤ N ∧ i = .int .i64 k ∧ Hid (ROt w wr g N f R k c)) (fun i _ => N - (intOf i).toNat)
    case atStart => exact ⟨0, _, Nat.zero_le _, rfl, HP0⟩
    case round =>
      obtain ⟨k, c, hk, rfl, HP⟩ := hrel
      by_cases hlt : k < N
      · have hkN : k < f.length := by rw [HN.out]; exact hlt
        obtain ⟨b, off, cap2, sv, kv, F, hv2, hbl, d0, d1, d2, d3, d4, d5, hok⟩ := HF.out.at_ k hkN
        rw [HN.out] at hv2
        injection hv2 with hv3 _ hv5
        subst hv3 hv5
        obtain ⟨hsk, hkd, _⟩ := hok.kids
        obtain ⟨Ak, ck, hkv, _, _⟩ := hkd.form
        have HKD := Lib.hid hkd
        have hb := HP.out.bel
        have tr : ∀ o, wr.cell? ⟨b, o, none⟩ = w.cell? ⟨b, o, none⟩ := fun o => hb.cell (p := ⟨b, o, none⟩) hbl
        have e0 := (tr _).trans d0
        have e1 := (tr _).trans d1
        have e2 := (tr _).trans d2
        have e3 := (tr _).trans d3
        have e4 := (tr _).trans d4
        have e5 := (tr _).trans d5
        obtain ⟨As, cs, hsv, _, _⟩ : ∃ A c, sv = .slice A f[k].set.length c ∧ True ∧ True := by
          obtain ⟨_, hs⟩ := hok.set
          obtain ⟨A, c, h1, _⟩ := hs.form
          exact ⟨A, c, h1, trivial, trivial⟩
        rw [hkv] at e5
        rw [hsv] at e4
        have hgo := HP.out.go
        rw [List.drop_eq_getElem_cons hkN] at hgo
        obtain ⟨t, ht⟩ : ∃ t, f[k] = t := ⟨_, rfl⟩
        rw [ht] at e0 e1 e2 e3 e4 e5 hgo hkv HKD
        have HT := Lib.hid ht
        clear d0 d1 d2 d3 d4 d5 tr hb hok hkd hsv ht
        obtain ⟨tk, tn, tm, tx, ts, tl⟩ := t
        simp only at e0 e1 e2 e3 e4 e5
        unfold rightGo at hgo
        by_cases hkd : tk < 1 ∨ 16 < tk
        · rw [if_pos hkd] at hgo
          have hr := HR.out
          rw [hgo] at hr
          have hr : false = r := hr
          subst hr
          have HB := Lib.hid HP.out.bel
          clear hgo
          rcases hkd with hkd | hkd
          · go_wp2
            go_ret
            exact ⟨rfl, HB.out.alloc HB.out.size _⟩
          · go_wp2
            go_ret
            exact ⟨rfl, HB.out.alloc HB.out.size _⟩
        · rw [if_neg hkd] at hgo
          have k1 : ¬ tk < 1 := fun h => hkd (.inl h)
          have k2 : ¬ 16 < tk := fun h => hkd (.inr h)
          have HGO2 := Lib.hid hgo
          have hsm := HP.out.small
          have hln := HP.out.len
          obtain ⟨D, hD⟩ : ∃ D, kidsGo k tl c = D := ⟨_, rfl⟩
          rw [hD] at hgo
          have HGD := Lib.hid hgo
          obtain ⟨K, hK⟩ : ∃ K, tl.length = K := ⟨_, rfl⟩
          have HKL := Lib.hid hK
          have hck : K ≤ 1000000 := by
            have h1 := HKI.out f[k] (List.getElem_mem hkN)
            rw [HT.out] at h1
            simp only at h1
            omega
          have HP1 := Lib.hid (show RIn w (wr.alloc (.cells #[.int .i64 tk, .int .i64 tn, .string tm, .string tx, .slice As ts.length cs, .slice Ak K ck] 57)) g N k tl D 0 c from
            ⟨HP.out.sl.alloc _, HP.out.bel.alloc HP.out.bel.size _, hD.symm, fun x hx => by have := hsm x hx; omega, hln⟩)
          rw [hK] at e5
          clear hgo hD hsm hln hkd hK
          go_wp2
          go_loopw [33] (fun i wr2 => ∃ (q : Nat) (c2 : List Int), q ≤ K ∧ i = .int .i64 q ∧ Hid (RIn w wr2 g N k tl D q c2)) (fun i _ => K - (intOf i).toNat)
          case atStart => exact ⟨0, _, Nat.zero_le _, rfl, HP1⟩
          case round =>
            obtain ⟨q, c2, hq, rfl, HQ⟩ := hrel
            by_cases hqK : q < K
            · have hql : q < tl.length := by rw [HKL.out]; exact hqK
              obtain ⟨bk, offk, ck2, hkk, hkv2, _, _, hbk, hkat⟩ := HKD.out.at_ (by first | omega | (simp only; omega))
              rw [hkv] at hkv2
              injection hkv2 with hk3 _ hk5
              subst hk3
              have hkc := (hkat q (by first | omega | (simp only; omega))).1
              have hgc : (intC tl)[q]? = some (.int .i64 tl[q]) := by simp [intC, hql]
              have hkc : w.cell? ⟨bk, offk + q, none⟩ = some (.int .i64 tl[q]) := hkc.trans hgc
              have hkc2 : wr.cell? ⟨bk, offk + q, none⟩ = some (.int .i64 tl[q]) := (HQ.out.bel.cell (p := ⟨bk, offk + q, none⟩) hbk).trans hkc
              obtain ⟨kk, hkkv⟩ : ∃ kk, tl[q] = kk := ⟨_, rfl⟩
              rw [hkkv] at hkc2
              have hbad : kk < 0 ∨ (k : Int) ≤ kk → r = false := by
                intro hb
                have h1 := HQ.out.go
                rw [List.drop_eq_getElem_cons hql, hkkv] at h1
                unfold kidsGo at h1
                rw [if_pos hb] at h1
                have h2 := HGD.out
                rw [h1] at h2
                have h3 := HR.out
                rw [h2] at h3
                exact h3.symm
              have HBAD := Lib.hid hbad
              have HBE := Lib.hid HQ.out.bel
              clear hkat hkc hgc hkk hbad
              by_cases hn0 : kk < 0
              · have hr := HBAD.out (.inl hn0)
                subst hr
                go_wp2
                go_ret
                exact ⟨rfl, HBE.out⟩
              · by_cases hnk : (k : Int) ≤ kk
                · have hr := HBAD.out (.inr hnk)
                  subst hr
                  go_wp2
                  go_ret
                  exact ⟨rfl, HBE.out⟩
                · obtain ⟨j, rfl⟩ : ∃ j : Nat, kk = (j : Int) := ⟨kk.toNat, by omega⟩
                  have hjk : j < k := by omega
                  have hjN : j < N := by omega
                  have hjc : j < c2.length := by rw [HQ.out.len]; exact hjN
                  obtain ⟨x, hx⟩ : ∃ x, c2[j]? = some x := ⟨_, List.getElem?_eq_getElem hjc⟩
                  have hsm := HQ.out.small x (List.mem_of_getElem? hx)
                  obtain ⟨hx1, hx2⟩ := hsm
                  obtain ⟨b', off', cap', _, hgv, _, _, _, hgat⟩ := HQ.out.sl.at_ (by omega)
                  simp only [Value.slice.injEq, Option.some.injEq, Addr.mk.injEq, and_true, true_and] at hgv
                  obtain ⟨⟨rfl, rfl⟩, rfl⟩ := hgv
                  obtain ⟨hgc, hgf⟩ := hgat j (by omega)
                  rw [Nat.zero_add] at hgc hgf
                  have hgx : (intC c2)[j]? = some (.int .i64 x) := by simp [intC, hx]
                  rw [hgx] at hgc
                  have hst := HQ.out.step hql hkkv hjk hjN (by rw [← HG.out]; exact Nat.le_refl _) hx
                  have HST := Lib.hid hst
                  clear hgat hgx hst hnk hn0
                  go_wp2
                  refine ⟨?_, by simp [intOf]; omega⟩
                  exact ⟨_, _, _, ⟨q + 1, by omega, by go_num, _, HST⟩, rfl, rfl, rfl⟩
            · have hqe : q = K := by omega
              subst hqe
              have h1 := HQ.out.go
              rw [List.drop_of_length_le (by rw [HKL.out]; exact Nat.le_refl _)] at h1
              have h2 := HGD.out
              rw [h1] at h2
              have HP2 := Lib.hid (show ROt w wr g N f R (k + 1) c2 from ⟨HQ.out.sl, HQ.out.bel, h2, fun x hx => by have := HQ.out.small x hx; omega, HQ.out.len⟩)
              clear h1 h2
              go_wp2
              refine ⟨?_, by simp [intOf]; omega⟩
              first | exact ⟨k + 1, _, by omega, by go_num, HP2⟩ | ((repeat apply Exists.intro); exact ⟨⟨k + 1, _, by omega, by go_num, HP2⟩, rfl⟩)
      · have hkN : k = N := by omega
        subst hkN
        have h1 := HP.out.go
        rw [List.drop_of_length_le (by rw [HN.out]; exact Nat.le_refl _)] at h1
        have hr := HR.out
        rw [h1] at hr
        have hr : c.dropLast.all (· == 1) = r := hr
        have HR2 := Lib.hid hr
        have HB := Lib.hid HP.out.bel
        have hln := HP.out.len
        clear h1 hr
        go_wp2
        go_loop [8] (fun i => ∃ m : Nat, m ≤ k ∧ i = .int .i64 m ∧ Hid (∀ j, j < m → c[j]? = some 1)) (fun i => k + 1 - (intOf i).toNat)
        case atStart => exact ⟨0, Nat.zero_le _, rfl, Lib.hid fun j hj => by omega⟩
        case round =>
          obtain ⟨m, hm, rfl, HM⟩ := hrel
          by_cases hlt2 : m + 1 < k
          · have hmc : m < c.length := by omega
            obtain ⟨x, hx⟩ : ∃ x, c[m]? = some x := ⟨_, List.getElem?_eq_getElem hmc⟩
            obtain ⟨b', off', cap', _, hgv, _, _, _, hgat⟩ := HP.out.sl.at_ (by omega)
            simp only [Value.slice.injEq, Option.some.injEq, Addr.mk.injEq, and_true, true_and] at hgv
            obtain ⟨⟨rfl, rfl⟩, rfl⟩ := hgv
            obtain ⟨hgc, _⟩ := hgat m (by omega)
            rw [Nat.zero_add] at hgc
            have hgx : (intC c)[m]? = some (.int .i64 x) := by simp [intC, hx]
            rw [hgx] at hgc
            clear hgat hgx
            by_cases hx1 : x = 1
            · subst hx1
              have HM2 : Hid (∀ j, j < m + 1 → c[j]? = some 1) := Lib.hid fun j hj => by
                by_cases hjm : j = m
                · subst hjm
                  exact hx
                · exact HM.out j (by omega)
              clear hx
              go_wp2
              go_round
              case rel => exact ⟨m + 1, by omega, by go_num, HM2⟩
              case measure => simp [intOf]; omega
            · have hxb : (x != 1) = true := by simpa using hx1
              have hf : r = false := by
                rw [← HR2.out, List.all_eq_false]
                refine ⟨x, ?_, by simpa using hx1⟩
                have h5 : c.dropLast[m]? = some x := by rw [List.getElem?_dropLast, if_pos (by omega)]; exact hx
                exact List.mem_of_getElem? h5
              subst hf
              clear hx hx1
              go_wp2
              go_ret
              exact ⟨rfl, HB.out⟩
          · have ht : r = true := by
              rw [← HR2.out, List.all_eq_true]
              intro x hx
              obtain ⟨j, hj, hjx⟩ := List.getElem_of_mem hx
              have hj2 : j < c.length - 1 := by simpa using hj
              have h5 := HM.out j (by omega)
              rw [List.getElem_dropLast] at hjx
              rw [List.getElem?_eq_getElem (by omega), hjx] at h5
              injection h5 with h5
              simp [h5]
            subst ht
            go_wp2
            go_ret
            exact ⟨rfl, HB.out⟩

end Go.Proofs.YtnfabgbidkddhaaGreatDoor
