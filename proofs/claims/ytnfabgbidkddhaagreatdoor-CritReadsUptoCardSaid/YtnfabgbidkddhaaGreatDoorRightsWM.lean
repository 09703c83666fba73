/-
  The walk of pillarboxlaw23.CritRights.
-/
import Derived.Test.YtnfabgbidkddhaaGreatDoorGCT
namespace Go.Proofs.YtnfabgbidkddhaaGreatDoor
open Go.RowKit
attribute [local go_sem ↓] Go.wp_at_zero Go.wp_at_succ

/-- What a reading hands back. -/
def RdX (W : World) (n : Nat) (f : Out) (m : Bool) (z : Int) (e : Ending) (w' : World) : Prop := ∃ A c, e = .returned (.tuple #[.slice A n c, .bool m, .int .i64 z]) ∧ FAt w' (.slice A n c) f ∧ Below W.heap.size W w'
theorem ROut.x {W W' : World} {r : Out × Bool × Int} {f : Out} {m : Bool} {z : Int} {n : Nat} {e : Ending} {w' : World} (h : ROut W' r e w') (hb : Below W.heap.size W W') (hr : r = (f, m, z)) (hn : f.length = n) : RdX W n f m z e w' := by
  subst hr hn
  obtain ⟨ov, hb2, xs, F, rfl, hs, hx, hbb⟩ := h
  obtain ⟨A, c, rfl, _, _⟩ := hs.form
  exact ⟨A, c, rfl, ⟨hb2, xs, F, hs, hx⟩, below_then hb hbb⟩
theorem mail8R {W : World} {g : Nat} {t : TypeId} {a b c d x y z u : Value} (hB : Blk W g t #[a, b, c, d, x, y, z, u]) :
    W.cell? ⟨g, 0, none⟩ = some a ∧ W.cell? ⟨g, 1, none⟩ = some b ∧ W.cell? ⟨g, 2, none⟩ = some c ∧ W.cell? ⟨g, 3, none⟩ = some d ∧ W.cell? ⟨g, 4, none⟩ = some x ∧ W.cell? ⟨g, 5, none⟩ = some y ∧ W.cell? ⟨g, 6, none⟩ = some z ∧ W.cell? ⟨g, 7, none⟩ = some u :=
  ⟨hB.cell 0, hB.cell 1, hB.cell 2, hB.cell 3, hB.cell 4, hB.cell 5, hB.cell 6, hB.cell 7⟩

set_option maxRecDepth 100000 in
set_option maxHeartbeats 8000000 in
theorem critRights_any (w : World) (v : Value) (ws : List WT) (box : Int) (uv : Value) (us : List Int) (e : Em) (id th born : Int) (kv mv : Value) (hm : Mx w) (hv : WsAt w v ws) (hsz : szL ws ≤ 1048576) (hu : RdS w [] 1 uv us.length (intC us))
    (hk : RdS w [] 1 kv e.keys.length (keysV e.keys)) (hmm : RdS w [] 2 mv e.mem.length (flatR e.mem)) :
    Calls Tryz.prog 4 #[v, .int .i64 box, uv, .agg #[.int .i64 id, .int .i64 th, .string ⟨e.text.toArray⟩, .int .i64 e.sec, kv, mv, .int .i64 e.mod, .int .i64 born]] w fun en w' => en = .returned (.bool true) ∧ Below w.heap.size w w' := by
  have hNu := fun n W => numC_any n W
  have hw := fun s W => word_anyL s W
  have hAw := fun W hm => awake_anyL W hm
  obtain ⟨W1, hW1⟩ : ∃ W, w.alloc (.cells #[.int .i64 id, .int .i64 th, .string ⟨e.text.toArray⟩, .int .i64 e.sec, kv, mv, .int .i64 e.mod, .int .i64 born] 39) = W := ⟨_, rfl⟩
  have hb1 : Below w.heap.size w W1 := by rw [← hW1]; exact below_alloc1 w _
  have hBk : Blk W1 w.heap.size 39 #[.int .i64 id, .int .i64 th, .string ⟨e.text.toArray⟩, .int .i64 e.sec, kv, mv, .int .i64 e.mod, .int .i64 born] := by rw [← hW1]; exact Blk.new w _ _
  have hm1 := hm.below hb1
  have hv1 := hv.below hb1
  have hu1 := hu.below hb1
  have hk1 := hk.below hb1
  have hmm1 := hmm.below hb1
  have hCL : ∀ W, Below W1.heap.size W1 W → Blk W w.heap.size 39 #[.int .i64 id, .int .i64 th, .string ⟨e.text.toArray⟩, .int .i64 e.sec, kv, mv, .int .i64 e.mod, .int .i64 born] := fun W hb => hBk.below hb hBk.lt
  have hMX : ∀ W, Below W1.heap.size W1 W → Mx W := fun W hb => hm1.below hb
  obtain ⟨gr, hgr⟩ : ∃ gr, greatP ws 0 = gr := ⟨_, rfl⟩
  have hG : ∀ W, Below W1.heap.size W1 W → Calls Tryz.prog 8 #[v, .int .i64 0] W fun en w' => en = .returned (.bool gr) ∧ W = w' := fun W hb => by
    rw [← hgr]
    exact great_any (szL ws) ws (Nat.le_refl _) W v 0 (by omega) (hv1.below hb)
  have hRi : ∀ W, Below W1.heap.size W1 W → Calls Tryz.prog 9 #[uv] W (RiseOut W us) := fun W hb => rise_any W uv us (hu1.below hb)
  have hEA : ∀ W, Below W1.heap.size W1 W → RiseOk us → EAt W uv ⟨box, us⟩ := fun W hb hr => ⟨hu1.below hb, hr.1, hr.2, hm1.below hb⟩
  have hR1 : okL ws → ∀ W, Below W1.heap.size W1 W → RiseOk us → ∀ n f m z, readP ⟨box, us⟩ ws = (f, m, z) → f.length = n → Calls Tryz.prog 11 #[v, .int .i64 box, uv] W (RdX W n f m z) := fun hok W hb hr n f m z h1 h2 =>
    (critRead_any W v uv ⟨box, us⟩ ws (hv1.below hb) hok (hEA W hb hr) (by omega)).mono fun e w' h => h.x (Below.refl _ _) h1 h2
  have hR2 : okL ws → ∀ W, Below W1.heap.size W1 W → RiseOk us → ∀ n f m z, readP ⟨box, us⟩ [.mk 1 notT [], .mk 3 ⟨#[]⟩ ws] = (f, m, z) → f.length = n → Calls Tryz.prog 11 #[.slice (some ⟨W.heap.size, 0, none⟩) 2 2, .int .i64 box, uv] (W.alloc (.cells #[.int .i64 1, .string ⟨#[110, 111, 116]⟩, .slice none 0 0, .int .i64 3, .string ⟨#[]⟩, v] 41)) (RdX W n f m z) := fun hok W hb hr n f m z h1 h2 =>
    (critRead_any _ _ uv ⟨box, us⟩ _ (WsAt.not2 41 (hv1.below hb)) (okL_list hok).2 (hEA _ (hb.alloc hb.size _) hr) (by rw [(szL_list ws).2]; omega)).mono fun e w' h => h.x (below_alloc1 W _) h1 h2
  have hR3 : okL ws → ∀ W, Below W1.heap.size W1 W → RiseOk us → ∀ n f m z, readP ⟨box, us⟩ [.mk 3 ⟨#[]⟩ ws] = (f, m, z) → f.length = n → Calls Tryz.prog 11 #[.slice (some ⟨W.heap.size, 0, none⟩) 1 1, .int .i64 box, uv] (W.alloc (.cells #[.int .i64 3, .string ⟨#[]⟩, v] 41)) (RdX W n f m z) := fun hok W hb hr n f m z h1 h2 =>
    (critRead_any _ _ uv ⟨box, us⟩ _ (WsAt.list1 41 (hv1.below hb)) (okL_list hok).1 (hEA _ (hb.alloc hb.size _) hr) (by rw [(szL_list ws).1]; omega)).mono fun e w' h => h.x (below_alloc1 W _) h1 h2
  have hHo : e.text.length ≤ 2147483648 → ∀ W, Below W1.heap.size W1 W → ∀ f x, FAt W x f → goodUF f = true → (∀ t ∈ f, t.kids.length ≤ 1000000) → f.length ≤ 1000 → (∀ t ∈ f, SmT t) → Calls Tryz.prog 16 #[x, .agg #[.int .i64 id, .int .i64 th, .string ⟨e.text.toArray⟩, .int .i64 e.sec, kv, mv, .int .i64 e.mod, .int .i64 born]] W fun en w' => en = .returned (.bool (HoldsT e f)) ∧ Below W.heap.size W w' := fun ht W hb f x hf hg hkd hl hs =>
    holds_anyT W e f x id th born kv mv ht (hk1.below hb) (hmm1.below hb) hf hg hkd hl (hm1.below hb) hs
  obtain ⟨Av, cv, hvf, _, _⟩ := hv.form
  obtain ⟨Au, cu, huf, _, _⟩ := hu.form
  obtain ⟨Ak, ck, hkf, _, _⟩ := hk.form
  obtain ⟨Am, cm, hmf, _, _⟩ := hmm.form
  obtain ⟨HT, hHT⟩ : ∃ HT, HoldsT e = HT := ⟨_, rfl⟩
  rw [hHT] at hHo
  have hlaw := fun k out hs hk hl => rights_law (k := k) (out := out) hs hk hl e
  rw [hHT] at hlaw
  have htl : (ByteArray.mk e.text.toArray).size = e.text.length := by simp [ByteArray.size]
  rw [← htl] at hHo
  generalize ByteArray.mk e.text.toArray = tx at *
  obtain ⟨KN, hKN⟩ : ∃ KN, e.keys.length = KN := ⟨_, rfl⟩
  obtain ⟨MN, hMN⟩ : ∃ MN, e.mem.length = MN := ⟨_, rfl⟩
  obtain ⟨LN, hLN⟩ : ∃ LN, ws.length = LN := ⟨_, rfl⟩
  obtain ⟨UN, hUN⟩ : ∃ UN, us.length = UN := ⟨_, rfl⟩
  rw [hKN] at hkf
  rw [hMN] at hmf
  rw [hLN] at hvf
  rw [hUN] at huf
  generalize e.sec = sec at *
  generalize e.mod = emod at *
  subst hvf huf hkf hmf
  have HG := Lib.hid hG
  have HRI := Lib.hid hRi
  have HR1 := Lib.hid hR1
  have HR2 := Lib.hid hR2
  have HR3 := Lib.hid hR3
  have HHO := Lib.hid hHo
  have HCL := Lib.hid hCL
  have HMX := Lib.hid hMX
  have HB1 := Lib.hid hb1
  have HGR := Lib.hid hgr
  have HLAW := Lib.hid hlaw
  have HW1 := Lib.hid hW1
  have hbR := Below.refl W1.heap.size W1
  obtain ⟨x0, x1, x2, x3, x4, x5, x6, x7⟩ := mail8R (hCL W1 hbR)
  have HB0 := Lib.hid hbR
  clear hG hRi hR1 hR2 hR3 hHo hCL hMX hb1 hgr hlaw hBk hm1 hv1 hu1 hk1 hmm1 hEA hm hv hu hk hmm hW1 hbR htl hKN hMN hLN hUN hHT
  by_cases hgg : gr = true
  · subst hgg
    go_enter Tryz.func4, Tryz.ntmps4
    go_upto_region 1 with (fail)
    rw [HW1.out]
    go_wp2_with (first
      | (go_at_call 8; refine (HG.out _ HB0.out).mono ?_; rintro en w2 ⟨rfl, rfl⟩)
      | (go_at_call 10; refine (hAw _ (HMX.out _ HB0.out)).mono ?_; rintro en w3 ⟨rfl, hb3⟩; have HB3 := Lib.hid (below_then HB1.out hb3); clear hb3)
      | fail)
    go_ret
    exact ⟨rfl, HB3.out⟩
  have hgf : gr = false := by simpa using hgg
  subst hgf
  have hok := great_ok HGR.out
  have HOK := Lib.hid hok
  clear hgg hok
  by_cases ht1 : 1000 < tx.size
  · go_enter Tryz.func4, Tryz.ntmps4
    go_upto_region 1 with (fail)
    rw [HW1.out]
    go_wp2_with (first
      | (go_at_call 8; refine (HG.out _ HB0.out).mono ?_; rintro en w2 ⟨rfl, rfl⟩)
      | (go_at_call 9; refine (HRI.out _ HB0.out).mono ?_; rintro en w2 ⟨r, rfl, hr, hb2⟩; have HB2 := Lib.hid hb2; obtain ⟨y0, y1, y2, y3, y4, y5, y6, y7⟩ := mail8R (HCL.out _ hb2); clear hb2 hr; cases r)
      | (go_at_call 10; refine (hAw _ (HMX.out _ HB2.out)).mono ?_; rintro en w3 ⟨rfl, hb3⟩; have HB3 := Lib.hid (below_then HB1.out (below_then HB2.out hb3)); clear hb3)
      | fail)
    all_goals
      go_ret
      exact ⟨rfl, HB3.out⟩
  by_cases ht2 : 40 < KN
  · go_enter Tryz.func4, Tryz.ntmps4
    go_upto_region 1 with (fail)
    rw [HW1.out]
    go_wp2_with (first
      | (go_at_call 8; refine (HG.out _ HB0.out).mono ?_; rintro en w2 ⟨rfl, rfl⟩)
      | (go_at_call 9; refine (HRI.out _ HB0.out).mono ?_; rintro en w2 ⟨r, rfl, hr, hb2⟩; have HB2 := Lib.hid hb2; obtain ⟨y0, y1, y2, y3, y4, y5, y6, y7⟩ := mail8R (HCL.out _ hb2); clear hb2 hr; cases r)
      | (go_at_call 10; refine (hAw _ (HMX.out _ HB2.out)).mono ?_; rintro en w3 ⟨rfl, hb3⟩; have HB3 := Lib.hid (below_then HB1.out (below_then HB2.out hb3)); clear hb3)
      | fail)
    all_goals
      go_ret
      exact ⟨rfl, HB3.out⟩
  by_cases ht3 : 20 < MN
  · go_enter Tryz.func4, Tryz.ntmps4
    go_upto_region 1 with (fail)
    rw [HW1.out]
    go_wp2_with (first
      | (go_at_call 8; refine (HG.out _ HB0.out).mono ?_; rintro en w2 ⟨rfl, rfl⟩)
      | (go_at_call 9; refine (HRI.out _ HB0.out).mono ?_; rintro en w2 ⟨r, rfl, hr, hb2⟩; have HB2 := Lib.hid hb2; obtain ⟨y0, y1, y2, y3, y4, y5, y6, y7⟩ := mail8R (HCL.out _ hb2); clear hb2 hr; cases r)
      | (go_at_call 10; refine (hAw _ (HMX.out _ HB2.out)).mono ?_; rintro en w3 ⟨rfl, hb3⟩; have HB3 := Lib.hid (below_then HB1.out (below_then HB2.out hb3)); clear hb3)
      | fail)
    all_goals
      go_ret
      exact ⟨rfl, HB3.out⟩
  by_cases h0 : (readP ⟨box, us⟩ ws).2.2 = 0
  · obtain ⟨k, out, mod, hwh, hrd, h40, hseg, hkl⟩ := read_some h0
    have hsm := read_sm HOK.out hwh
    have hn2 := read_not (E := ⟨box, us⟩) ⟨#[]⟩ hwh
    have hn3 := read_list (E := ⟨box, us⟩) ⟨#[]⟩ hwh
    obtain ⟨n, hn⟩ : ∃ n, out.length = n := ⟨_, rfl⟩
    have HRD := Lib.hid hrd
    have HN := Lib.hid hn
    by_cases h38 : 40 < n + 2
    · rw [if_pos (by rw [hn]; exact h38)] at hn2
      have HN2 := Lib.hid hn2
      obtain ⟨f3, m3, z3, hf3⟩ : ∃ f m z, readP ⟨box, us⟩ [.mk 3 ⟨#[]⟩ ws] = (f, m, z) := ⟨_, _, _, rfl⟩
      have HF3 := Lib.hid hf3
      clear hn2 hn3 hwh hrd hseg hkl hsm h40 h0 hn hf3
      go_enter Tryz.func4, Tryz.ntmps4
      go_upto_region 1 with (fail)
      rw [HW1.out]
      go_wp2_with (first
        | (go_at_call 8; refine (HG.out _ HB0.out).mono ?_; rintro en w2 ⟨rfl, rfl⟩)
        | (go_at_call 9; refine (HRI.out _ HB0.out).mono ?_; rintro en w2 ⟨r, rfl, hr, hb2⟩; have HB2 := Lib.hid hb2; obtain ⟨y0, y1, y2, y3, y4, y5, y6, y7⟩ := mail8R (HCL.out _ hb2); have HRISE := Lib.hid hr; clear hb2 hr; cases r)
        | (go_at_call 11; (with_reducible refine (HR1.out HOK.out _ HB2.out (HRISE.out (by first | rfl | trivial)) _ _ _ _ HRD.out HN.out).mono ?_); rintro en w3 ⟨A1, c1, rfl, hf1, hb3⟩; have HB3 := Lib.hid (below_then HB2.out hb3); clear hb3 hf1)
        | (go_at_call 14; refine (hNu _ _).mono ?_; rintro en wn ⟨rfl, rfl⟩)
        | (go_at_call 15; refine (hw _ _).mono ?_; rintro en w4 ⟨rfl, hb4⟩; have HB4 := Lib.hid (below_then HB3.out hb4); clear hb4)
        | (go_at_call 11; (with_reducible refine (HR2.out HOK.out _ HB4.out (HRISE.out (by first | rfl | trivial)) _ _ _ _ HN2.out rfl).mono ?_); rintro en w5 ⟨A2, c2, rfl, hf2, hb5⟩; have HB5 := Lib.hid (below_then HB4.out hb5); clear hb5 hf2)
        | (go_at_call 11; (with_reducible refine (HR3.out HOK.out _ HB5.out (HRISE.out (by first | rfl | trivial)) _ _ _ _ HF3.out rfl).mono ?_); rintro en w6 ⟨A3, c3, rfl, hf3, hb6⟩; have HB6 := Lib.hid (below_then HB5.out hb6); clear hb6 hf3)
        | (go_at_call 10; refine (hAw _ (HMX.out _ HB6.out)).mono ?_; rintro en w9 ⟨rfl, hb9⟩; have HB9 := Lib.hid (below_then HB1.out (below_then HB6.out hb9)); clear hb9)
        | (go_at_call 10; refine (hAw _ (HMX.out _ HB2.out)).mono ?_; rintro en w9 ⟨rfl, hb9⟩; have HB9 := Lib.hid (below_then HB1.out (below_then HB2.out hb9)); clear hb9)
        | fail)
      all_goals
        go_ret
        exact ⟨rfl, HB9.out⟩
    · rw [if_neg (by rw [hn]; exact h38)] at hn2
      rw [if_neg (by rw [hn]; omega)] at hn3
      obtain ⟨l1, l2, l3, l4, l5, l6, l7, l8, l9, l10⟩ := HLAW.out k out hseg hkl (by omega)
      have s2 := sm_app (sm_app hsm (sm_k 3 [k])) (sm_k 1 [(out.length : Int)])
      have s3 := sm_app hsm (sm_k 1 [k])
      have n2 : (out ++ [tmK 3 [k]] ++ [tmK 1 [(out.length : Int)]]).length = n + 2 := by simp [hn]
      have n3 : (out ++ [tmK 1 [k]]).length = n + 1 := by simp [hn]
      have r1 := fun W x hf => right_anyH W x out hf l8
      have r2 := fun W x hf => right_anyH W x _ hf l9
      rw [l1] at r1
      rw [l2] at r2
      have o1 := fun W x hb hf => HHO.out (by omega) W hb out x hf l5 l8 (by omega) hsm
      have o2 := fun W x hb hf => HHO.out (by omega) W hb _ x hf l6 l9 (by omega) s2
      have o3 := fun W x hb hf => HHO.out (by omega) W hb _ x hf l7 l10 (by omega) s3
      rw [l3] at o2
      rw [l4] at o3
      have HN2 := Lib.hid hn2
      have HN3 := Lib.hid hn3
      have HL2 := Lib.hid n2
      have HL3 := Lib.hid n3
      clear l1 l2 l3 l4 l5 l6 l7 l8 l9 l10 s2 s3 hn2 hn3 hwh hrd hseg hkl hsm h40 h0
      generalize (out ++ [tmK 3 [k]] ++ [tmK 1 [(out.length : Int)]]) = f2 at *
      generalize (out ++ [tmK 1 [k]]) = f3 at *
      generalize HT out = xx at *
      have R1 := Lib.hid r1
      have R2 := Lib.hid r2
      have O1 := Lib.hid o1
      have O2 := Lib.hid o2
      have O3 := Lib.hid o3
      clear r1 r2 o1 o2 o3 n2 n3 hn
      cases xx <;> simp only [Bool.not_false, Bool.not_true] at O2
      all_goals
        go_enter Tryz.func4, Tryz.ntmps4
        go_upto_region 1 with (fail)
        rw [HW1.out]
        go_wp2_with (first
          | (go_at_call 8; refine (HG.out _ HB0.out).mono ?_; rintro en w2 ⟨rfl, rfl⟩)
          | (go_at_call 9; refine (HRI.out _ HB0.out).mono ?_; rintro en w2 ⟨r, rfl, hr, hb2⟩; have HB2 := Lib.hid hb2; obtain ⟨y0, y1, y2, y3, y4, y5, y6, y7⟩ := mail8R (HCL.out _ hb2); have HRISE := Lib.hid hr; clear hb2 hr; cases r)
          | (go_at_call 11; (with_reducible refine (HR1.out HOK.out _ HB2.out (HRISE.out (by first | rfl | trivial)) _ _ _ _ HRD.out HN.out).mono ?_); rintro en w3 ⟨A1, c1, rfl, hf1, hb3⟩; have HB3 := Lib.hid (below_then HB2.out hb3); have HF1 := Lib.hid hf1; clear hb3 hf1)
          | (go_at_call 14; refine (hNu _ _).mono ?_; rintro en wn ⟨rfl, rfl⟩)
          | (go_at_call 15; refine (hw _ _).mono ?_; rintro en w4 ⟨rfl, hb4⟩; have HB4 := Lib.hid (below_then HB3.out hb4); have HF1 := Lib.hid (HF1.out.below hb4); clear hb4)
          | (go_at_call 11; (with_reducible refine (HR2.out HOK.out _ HB4.out (HRISE.out (by first | rfl | trivial)) _ _ _ _ HN2.out HL2.out).mono ?_); rintro en w5 ⟨A2, c2, rfl, hf2, hb5⟩; have HB5 := Lib.hid (below_then HB4.out hb5); have HF1 := Lib.hid (HF1.out.below hb5); have HF2 := Lib.hid hf2; clear hb5 hf2)
          | (go_at_call 11; (with_reducible refine (HR3.out HOK.out _ HB5.out (HRISE.out (by first | rfl | trivial)) _ _ _ _ HN3.out HL3.out).mono ?_); rintro en w6 ⟨A3, c3, rfl, hf3, hb6⟩; have HB6 := Lib.hid (below_then HB5.out hb6); have HF1 := Lib.hid (HF1.out.below hb6); have HF2 := Lib.hid (HF2.out.below hb6); have HF3 := Lib.hid hf3; obtain ⟨z0, z1, z2, z3, z4, z5, z6, z7⟩ := mail8R (HCL.out _ HB6.out); clear hb6 hf3)
          | (go_at_call 16; (with_reducible refine (O1.out _ _ HB6.out HF1.out).mono ?_); rintro en w7 ⟨rfl, hb7⟩; have HB7 := Lib.hid (below_then HB6.out hb7); have HF1 := Lib.hid (HF1.out.below hb7); have HF2 := Lib.hid (HF2.out.below hb7); have HF3 := Lib.hid (HF3.out.below hb7); clear hb7)
          | (go_at_call 17; (with_reducible refine (R1.out _ _ HF1.out).mono ?_); rintro en w8 ⟨rfl, hb8⟩; have HB8 := Lib.hid (below_then HB7.out hb8); have HF2 := Lib.hid (HF2.out.below hb8); have HF3 := Lib.hid (HF3.out.below hb8); clear hb8)
          | (go_at_call 17; (with_reducible refine (R2.out _ _ HF2.out).mono ?_); rintro en w9 ⟨rfl, hb9⟩; have HB9 := Lib.hid (below_then HB8.out hb9); have HF2 := Lib.hid (HF2.out.below hb9); have HF3 := Lib.hid (HF3.out.below hb9); obtain ⟨t0, t1, t2, t3, t4, t5, t6, t7⟩ := mail8R (HCL.out _ HB9.out); clear hb9)
          | (go_at_call 16; (with_reducible refine (O2.out _ _ HB9.out HF2.out).mono ?_); rintro en w10 ⟨rfl, hb10⟩; have HB10 := Lib.hid (below_then HB9.out hb10); have HF3 := Lib.hid (HF3.out.below hb10); obtain ⟨u0, u1, u2, u3, u4, u5, u6, u7⟩ := mail8R (HCL.out _ HB10.out); clear hb10)
          | (go_at_call 16; (with_reducible refine (O3.out _ _ HB10.out HF3.out).mono ?_); rintro en w11 ⟨rfl, hb11⟩; have HB11 := Lib.hid (below_then HB10.out hb11); clear hb11)
          | (go_at_call 10; refine (hAw _ (HMX.out _ HB11.out)).mono ?_; rintro en w12 ⟨rfl, hb12⟩; have HB12 := Lib.hid (below_then HB1.out (below_then HB11.out hb12)); clear hb12)
          | (go_at_call 10; refine (hAw _ (HMX.out _ HB2.out)).mono ?_; rintro en w12 ⟨rfl, hb12⟩; have HB12 := Lib.hid (below_then HB1.out (below_then HB2.out hb12)); clear hb12)
          | fail)
        all_goals
          go_ret
          exact ⟨rfl, HB12.out⟩
  · have hbd := read_bad h0
    obtain ⟨f1, m1, z1, hrd⟩ : ∃ f m z, readP ⟨box, us⟩ ws = (f, m, z) := ⟨_, _, _, rfl⟩
    rw [hrd] at h0 hbd
    simp only at h0 hbd
    subst hbd
    have hz0 : (z1 == 0) = false := by rw [beq_eq_false_iff_ne]; exact h0
    have hz1 : (z1 != 0) = true := by rw [bne, hz0]; rfl
    have HRD := Lib.hid hrd
    clear h0 hrd
    go_enter Tryz.func4, Tryz.ntmps4
    go_upto_region 1 with (fail)
    rw [HW1.out]
    go_wp2_with (first
      | (go_at_call 8; refine (HG.out _ HB0.out).mono ?_; rintro en w2 ⟨rfl, rfl⟩)
      | (go_at_call 9; refine (HRI.out _ HB0.out).mono ?_; rintro en w2 ⟨r, rfl, hr, hb2⟩; have HB2 := Lib.hid hb2; obtain ⟨y0, y1, y2, y3, y4, y5, y6, y7⟩ := mail8R (HCL.out _ hb2); have HRISE := Lib.hid hr; clear hb2 hr; cases r)
      | (go_at_call 11; (with_reducible refine (HR1.out HOK.out _ HB2.out (HRISE.out (by first | rfl | trivial)) 0 _ _ _ HRD.out rfl).mono ?_); rintro en w3 ⟨A1, c1, rfl, hf1, hb3⟩; have HB3 := Lib.hid (below_then HB2.out hb3); clear hb3 hf1)
      | (go_at_call 14; refine (hNu _ _).mono ?_; rintro en wn ⟨rfl, rfl⟩)
      | (go_at_call 10; refine (hAw _ (HMX.out _ HB3.out)).mono ?_; rintro en w9 ⟨rfl, hb9⟩; have HB9 := Lib.hid (below_then HB1.out (below_then HB3.out hb9)); clear hb9)
      | (go_at_call 10; refine (hAw _ (HMX.out _ HB2.out)).mono ?_; rintro en w9 ⟨rfl, hb9⟩; have HB9 := Lib.hid (below_then HB1.out (below_then HB2.out hb9)); clear hb9)
      | fail)
    all_goals
      go_ret
      exact ⟨rfl, HB9.out⟩

end Go.Proofs.YtnfabgbidkddhaaGreatDoor
