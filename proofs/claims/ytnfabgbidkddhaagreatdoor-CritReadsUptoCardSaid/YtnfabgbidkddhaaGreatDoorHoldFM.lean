/-
  The walks of text.In, of slices.ContainsFunc over fields, and of what seek's holds asks of a field.
-/
import Derived.Test.YtnfabgbidkddhaaGreatDoorHoldInM
import Derived.Test.YtnfabgbidkddhaaGreatDoorSplit1M
import Derived.Test.YtnfabgbidkddhaaGreatDoorGRA
import Derived.Test.YtnfabgbidkddhaaGreatDoorGCA
import Derived.Test.YtnfabgbidkddhaaGreatDoorShelf
import Derived.Deep.RegionWith
namespace Go.Proofs.YtnfabgbidkddhaaGreatDoor
open Go.RowKit
attribute [local go_sem ↓] Go.wp_at_zero Go.wp_at_succ

/-- Whether a text has another one in it, in letters of any size. -/
def tinB (s t : ByteArray) : Bool := Lib.contains (lowS s).data.toList (lowS t).data.toList

set_option maxRecDepth 100000 in
theorem tin_any (w : World) (s t : ByteArray) (hs : s.size ≤ 4294967280) (ht : t.size ≤ 4294967280) (hm : Mx w) :
    Calls Tryz.prog 36 #[.string s, .string t] w fun e w' => e = .returned (.bool (tinB s t)) ∧ Below w.heap.size w w' := by
  have f1 := fun W => fold_any s W (by omega)
  have f2 := fun W => fold_any t W (by omega)
  have hc : ∀ W, Below w.heap.size w W → Calls Tryz.prog 58 #[.string (lowS s), .string (lowS t)] W fun e w' => e = .returned (.bool (tinB s t)) ∧ w' = W := fun W hb => by
    obtain ⟨m, hmm⟩ := hm.below hb
    exact Tryz.strings_Contains (lowS s) (lowS t) m W (by rw [lowS_size]; omega) hmm
  generalize tinB s t = r at *
  clear hm
  go_enter Tryz.func36, Tryz.ntmps36
  go_wp2_with (first
    | (go_at_call 40; (with_reducible refine (f1 _).mono ?_); rintro e w2 ⟨rfl, hb2⟩; have HB2 := Lib.hid hb2; clear f1 hb2)
    | (go_at_call 40; (with_reducible refine (f2 _).mono ?_); rintro e w3 ⟨rfl, hb3⟩; have HB3 := Lib.hid (below_then HB2.out hb3); clear f2 hb3)
    | (go_at_call 58; refine (hc _ HB3.out).mono ?_; rintro e w4 ⟨rfl, rfl⟩)
    | fail)
  go_ret
  exact ⟨rfl, HB3.out⟩

def encFA (x : List UInt8 × List UInt8) : Value := .agg #[.string ⟨x.1.toArray⟩, .string ⟨x.2.toArray⟩]
set_option maxRecDepth 100000 in
set_option maxHeartbeats 2000000 in
theorem idxF_any (w : World) (v : Value) (l : List (List UInt8 × List UInt8)) (hr : RdS w [] 2 v l.length (flatG encF l)) (q : FuncId) (caps : Array Value) (p : List UInt8 × List UInt8 → Bool) (heg : ∀ args W, (callFunc q args).run Tryz.prog W = .ok (.enter q args) W)
    (hp : ∀ x ∈ l, ∀ W, Below w.heap.size w W → Calls Tryz.prog q (#[encFA x] ++ caps) W fun e W' => e = .returned (.bool (p x)) ∧ Below W.heap.size W W') :
    Calls Tryz.prog 59 #[v, .func (.func q) #[] caps] w (IxOut w (l.any p)) := by
  obtain ⟨ans, hans⟩ : ∃ ans, l.any p = ans := ⟨_, rfl⟩
  rw [hans]
  obtain ⟨n, hn⟩ : ∃ n, l.length = n := ⟨_, rfl⟩
  rw [hn] at hr
  obtain ⟨A, cap, rfl, _, hcap⟩ := hr.form
  have hmb : n ≤ 9223372036854775807 := by
    unfold maxLen at hcap
    omega
  have HR := Lib.hid hr
  have HN := Lib.hid hn
  have HP := Lib.hid hp
  have HANS := Lib.hid hans
  clear hr hn hp hans
  go_enter Tryz.func59, Tryz.ntmps59
  go_wp2
  go_loopw [8] (fun i wr => ∃ k : Nat, k ≤ n ∧ i = .int .i64 k ∧ Hid ((l.take k).any p = false) ∧ Hid (Below w.heap.size w wr)) (fun i _ => n - (intOf i).toNat)
  case atStart => exact ⟨0, Nat.zero_le _, rfl, Lib.hid rfl, Lib.hid (Below.refl _ _)⟩
  case round =>
    obtain ⟨k, hk, rfl, HA, HB⟩ := hrel
    by_cases hlt : k < n
    · have hke : k < l.length := by rw [HN.out]; exact hlt
      obtain ⟨b, off, cap2, hva, _, _, hbl, _, hat⟩ := HR.out.at_ (by omega)
      injection hva with hva1 hva2 hva3
      subst hva1
      clear hva2 hva3
      have f0 : (flatG encF l)[k * 2]? = some (.string ⟨l[k].1.toArray⟩) := (flatG_get encF_length l k 0 hke (by omega)).trans rfl
      have f1 : (flatG encF l)[k * 2 + 1]? = some (.string ⟨l[k].2.toArray⟩) := (flatG_get encF_length l k 1 hke (by omega)).trans rfl
      have d0 : wr.cell? ⟨b, off + k * 2, none⟩ = some (.string ⟨l[k].1.toArray⟩) := (HB.out.cell (p := ⟨b, off + k * 2, none⟩) hbl).trans ((hat (k * 2) (by omega)).trans f0)
      have d1 : wr.cell? ⟨b, off + k * 2 + 1, none⟩ = some (.string ⟨l[k].2.toArray⟩) := (HB.out.cell (p := ⟨b, off + k * 2 + 1, none⟩) hbl).trans ((hat (k * 2 + 1) (by omega)).trans f1)
      have hcall := HP.out l[k] (List.getElem_mem hke) wr HB.out
      have hst := any_take l p k hke HA.out
      obtain ⟨x, hx⟩ : ∃ x, l[k] = x := ⟨_, rfl⟩
      rw [hx] at d0 d1 hcall hst
      obtain ⟨px, hpx⟩ : ∃ px, p x = px := ⟨_, rfl⟩
      rw [hpx] at hcall hst
      obtain ⟨xa, xb⟩ := x
      simp only [encFA] at d0 d1 hcall
      have HST := Lib.hid hst
      clear hat f0 f1 hst hx hpx
      cases px with
      | true =>
        have ht : ans = true := by
          rw [← HANS.out, List.any_eq_true]
          obtain ⟨y, h1, h2⟩ := List.any_eq_true.1 HST.out
          exact ⟨y, List.mem_of_mem_take h1, h2⟩
        subst ht
        go_wp2_with (first
          | (refine hcall.mono ?_; rintro e w2 ⟨rfl, hb2⟩; have HB2 := Lib.hid (below_then HB.out hb2); clear hb2 hcall)
          | fail)
        go_ret
        exact ⟨_, rfl, by simp, HB2.out⟩
      | false =>
        go_wp2_with (first
          | (refine hcall.mono ?_; rintro e w2 ⟨rfl, hb2⟩; have HB2 := Lib.hid (below_then HB.out hb2); clear hb2 hcall)
          | fail)
        refine ⟨?_, by simp [intOf]; omega⟩
        first | exact ⟨k + 1, by omega, by go_num, HST, HB2⟩ | ((repeat apply Exists.intro); exact ⟨⟨k + 1, by omega, by go_num, HST, HB2⟩, rfl⟩)
    · have hkn : k = n := by omega
      subst hkn
      have hf : ans = false := by
        rw [← HANS.out]
        have h1 := HA.out
        rw [List.take_of_length_le (by rw [HN.out]; exact Nat.le_refl _)] at h1
        exact h1
      subst hf
      go_wp2
      go_ret
      exact ⟨_, rfl, by decide, HB.out⟩

set_option maxRecDepth 100000 in
theorem hasF_any (w : World) (v : Value) (l : List (List UInt8 × List UInt8)) (hr : RdS w [] 2 v l.length (flatG encF l)) (q : FuncId) (caps : Array Value) (p : List UInt8 × List UInt8 → Bool) (heg : ∀ args W, (callFunc q args).run Tryz.prog W = .ok (.enter q args) W)
    (hp : ∀ x ∈ l, ∀ W, Below w.heap.size w W → Calls Tryz.prog q (#[encFA x] ++ caps) W fun e W' => e = .returned (.bool (p x)) ∧ Below W.heap.size W W') :
    Calls Tryz.prog 37 #[v, .func (.func q) #[] caps] w fun e w' => e = .returned (.bool (l.any p)) ∧ Below w.heap.size w w' := by
  have hi := idxF_any w v l hr q caps p heg hp
  obtain ⟨A, cap, rfl, _, hcap⟩ := hr.form
  generalize l.length = n at *
  clear hr hp heg
  go_enter Tryz.func37, Tryz.ntmps37
  go_wp2_with (first
    | (go_at_call 59; refine hi.mono ?_; rintro e w2 ⟨r, rfl, hb, hb2⟩; have HB := Lib.hid hb; have HB2 := Lib.hid hb2; clear hb hb2 hi)
    | fail)
  go_ret
  exact ⟨ret_bool HB.out, HB2.out⟩

set_option maxRecDepth 100000 in
theorem fieldTx_any (w : World) (b7 : Nat) (cs : Array Value) (tx : ByteArray) (h7 : Blk w b7 57 cs) (h3 : w.cell? ⟨b7, 3, none⟩ = some (.string tx)) (x : List UInt8 × List UInt8) (hx : x.2.length ≤ 4294967280) (ht : tx.size ≤ 4294967280) (hm : Mx w) :
    Calls Tryz.prog 38 #[encFA x, .pointer (some ⟨b7, 0, none⟩)] w fun e w' => e = .returned (.bool (tinB ⟨x.2.toArray⟩ tx)) ∧ Below w.heap.size w w' := by
  have l7 := h7.lt
  obtain ⟨xa, xb⟩ := x
  unfold encFA
  simp only at hx ⊢
  have hc := tin_any (w.alloc (.cells #[.string ⟨xa.toArray⟩, .string ⟨xb.toArray⟩] 91)) ⟨xb.toArray⟩ tx (by simpa [ByteArray.size] using hx) ht (hm.below (below_alloc1 w _))
  generalize tinB ⟨xb.toArray⟩ tx = r at *
  clear h7 hm
  go_enter Tryz.func38, Tryz.ntmps38
  go_wp2_with (first
    | (go_at_call 36; refine hc.mono ?_; rintro e w2 ⟨rfl, hb2⟩; have HB2 := Lib.hid (below_then (below_alloc1 w _) hb2); clear hb2 hc)
    | fail)
  go_ret
  exact ⟨rfl, HB2.out⟩

def hdB (x : List UInt8 × List UInt8) (nm tx : ByteArray) : Bool := decide (lowS ⟨x.1.toArray⟩ = lowS nm) && tinB ⟨x.2.toArray⟩ tx
set_option maxRecDepth 100000 in
set_option maxHeartbeats 2000000 in
theorem fieldHd_any (w : World) (b7 : Nat) (cs : Array Value) (nm tx : ByteArray) (h7 : Blk w b7 57 cs) (h2 : w.cell? ⟨b7, 2, none⟩ = some (.string nm)) (h3 : w.cell? ⟨b7, 3, none⟩ = some (.string tx)) (x : List UInt8 × List UInt8) (hx1 : x.1.length ≤ 4294967280) (hx : x.2.length ≤ 4294967280) (hn : nm.size ≤ 4294967280) (ht : tx.size ≤ 4294967280) (hm : Mx w) :
    Calls Tryz.prog 39 #[encFA x, .pointer (some ⟨b7, 0, none⟩)] w fun e w' => e = .returned (.bool (hdB x nm tx)) ∧ Below w.heap.size w w' := by
  have l7 := h7.lt
  obtain ⟨xa, xb⟩ := x
  unfold encFA hdB
  simp only at hx1 hx ⊢
  obtain ⟨W, hW⟩ : ∃ W, w.alloc (.cells #[.string ⟨xa.toArray⟩, .string ⟨xb.toArray⟩] 91) = W := ⟨_, rfl⟩
  have hbW : Below w.heap.size w W := by rw [← hW]; exact below_alloc1 w _
  have hBx : Blk W w.heap.size 91 #[.string ⟨xa.toArray⟩, .string ⟨xb.toArray⟩] := by rw [← hW]; exact Blk.new w _ _
  have hC : ∀ V, Below W.heap.size W V → V.cell? ⟨w.heap.size, 0, none⟩ = some (.string ⟨xa.toArray⟩) ∧ V.cell? ⟨w.heap.size, 1, none⟩ = some (.string ⟨xb.toArray⟩) ∧ V.cell? ⟨b7, 2, none⟩ = some (.string nm) ∧ V.cell? ⟨b7, 3, none⟩ = some (.string tx) := fun V hb =>
    ⟨(hBx.below hb hBx.lt).cell 0, (hBx.below hb hBx.lt).cell 1, ((hbW.trans (hb.mono hbW.size)).cell (p := ⟨b7, 2, none⟩) l7).trans h2, ((hbW.trans (hb.mono hbW.size)).cell (p := ⟨b7, 3, none⟩) l7).trans h3⟩
  have hc := fun V (hb : Below W.heap.size W V) => tin_any V ⟨xb.toArray⟩ tx (by simpa [ByteArray.size] using hx) ht ((hm.below hbW).below hb)
  have f1 := fun V => fold_any ⟨xa.toArray⟩ V (by simp [ByteArray.size]; omega)
  have f2 := fun V => fold_any nm V (by omega)
  have HC := Lib.hid hC
  have HTI := Lib.hid hc
  have HBW := Lib.hid hbW
  have HW := Lib.hid hW
  obtain ⟨c0, c1, c2, c3⟩ := hC W (Below.refl _ _)
  generalize tinB ⟨xb.toArray⟩ tx = r at *
  generalize ByteArray.mk xa.toArray = xA at *
  generalize ByteArray.mk xb.toArray = xB at *
  clear h7 hm hC hc hBx hbW hW h2 h3
  by_cases he : lowS xA = lowS nm
  · have hcmp : ((lowS xA).toList == (lowS nm).toList) = true := by rw [he]; simp
    rw [decide_eq_true he, Bool.true_and]
    clear he
    go_enter Tryz.func39, Tryz.ntmps39
    go_upto_region 1 with (fail)
    rw [HW.out]
    go_region_held3 (fun V => V.cell? ⟨w.heap.size, 0, none⟩ = some (.string xA) ∧ V.cell? ⟨w.heap.size, 1, none⟩ = some (.string xB) ∧ V.cell? ⟨b7, 2, none⟩ = some (.string nm) ∧ V.cell? ⟨b7, 3, none⟩ = some (.string tx)) (first | exact HC2 | exact HC3 | exact HC4 | go_keep) (first
      | (go_at_call 40; (with_reducible refine (f1 _).mono ?_); rintro e w2 ⟨rfl, hb2⟩; have HB2 : Hid (Below W.heap.size W w2) := Lib.hid (below_drop hb2); have HC2 := HC.out _ (below_drop hb2); clear hb2)
      | (go_at_call 40; (with_reducible refine (f2 _).mono ?_); rintro e w3 ⟨rfl, hb3⟩; have HB3 := Lib.hid (below_then HB2.out hb3); have HC3 := HC.out _ HB3.out; clear hb3)
      | (go_at_call 36; refine (HTI.out _ HB3.out).mono ?_; rintro e w4 ⟨rfl, hb4⟩; have HB4 := Lib.hid (below_then HB3.out hb4); have HC4 := HC.out _ HB4.out; clear hb4)
      | fail)
    all_goals
      go_wp2
      go_ret
      exact ⟨rfl, below_then HBW.out HB4.out⟩
  · have hcmp : ((lowS xA).toList == (lowS nm).toList) = false := by
      rw [toList_beqB, beq_eq_false_iff_ne]
      intro h
      apply he
      exact (of_dataL _ _ h)
    rw [decide_eq_false he, Bool.false_and]
    clear he
    go_enter Tryz.func39, Tryz.ntmps39
    go_upto_region 1 with (fail)
    rw [HW.out]
    refine wp_region_held_drew (S := fun V => V.cell? ⟨w.heap.size, 0, none⟩ = some (.string xA) ∧ V.cell? ⟨b7, 2, none⟩ = some (.string nm)) (by kernel_rfl) (⟨c0, c2⟩) (fun hHeld => ?_)
    refine wpAnyH_take (i := 0) (oi := _) (v := .pointer (some ⟨w.heap.size, 0, none⟩)) rfl (by kernel_rfl) (by kernel_rfl) (by kernel_rfl) (fun _ _ _ h => h) (Or.inl ⟨by rfl, ?_⟩) (by trivial) ?_
    · intro w _
      go_simp
    simp only [Act.put, List.setIfInBounds_toArray, List.set_cons_zero, List.set_cons_succ, List.getElem_toArray, List.getElem_cons_zero]
    refine wpAnyH_take (i := 1) (oi := _) (v := .string xA) rfl (by kernel_rfl) (by kernel_rfl) (by kernel_rfl) (fun _ _ _ h => h) (Or.inl ⟨by rfl, ?_⟩) (by trivial) ?_
    · intro V hV
      obtain ⟨q0, q2⟩ := hV
      go_simp
    simp only [Act.put, List.setIfInBounds_toArray, List.set_cons_zero, List.set_cons_succ, List.getElem_toArray, List.getElem_cons_succ, List.getElem_cons_zero]
    refine wpAnyH_take (i := 3) (oi := _) (v := .pointer (some ⟨b7, 2, none⟩)) rfl (by kernel_rfl) (by kernel_rfl) (by kernel_rfl) (fun _ _ _ h => h) (Or.inl ⟨by rfl, ?_⟩) (by trivial) ?_
    · intro w _
      go_simp
    simp only [Act.put, List.setIfInBounds_toArray, List.set_cons_zero, List.set_cons_succ, List.getElem_toArray, List.getElem_cons_succ, List.getElem_cons_zero]
    refine wpAnyH_take (i := 4) (oi := _) (v := .string nm) rfl (by kernel_rfl) (by kernel_rfl) (by kernel_rfl) (fun _ _ _ h => h) (Or.inl ⟨by rfl, ?_⟩) (by trivial) ?_
    · intro V hV
      obtain ⟨q0, q2⟩ := hV
      go_simp
    simp only [Act.put, List.setIfInBounds_toArray, List.set_cons_zero, List.set_cons_succ, List.getElem_toArray, List.getElem_cons_succ, List.getElem_cons_zero]
    refine wpAnyH_ready (rs := [2]) (by kernel_rfl) (by simp) ?_
    refine AllReadyH.cons (o := _) rfl (fun K hK => ?_) AllReadyH.nil
    go_simp
    go_wp2_with (first
      | (go_at_call 40; (with_reducible refine (f1 _).mono ?_); rintro e w2 ⟨rfl, hb2⟩; have HB2 : Hid (Below W.heap.size W w2) := Lib.hid (below_drop hb2); have HC2 := HC.out _ HB2.out; clear hb2)
      | fail)
    refine hK.out _ _ (⟨HC2.1, HC2.2.2.1⟩) (fun _ => ?_)
    clear hK K
    refine wpAnyH_ready (rs := [5]) (by kernel_rfl) (by simp) ?_
    refine AllReadyH.cons (o := _) rfl (fun K hK => ?_) AllReadyH.nil
    go_simp
    go_wp2_with (first
      | (go_at_call 40; (with_reducible refine (f2 _).mono ?_); rintro e w3 ⟨rfl, hb3⟩; have HB3 := Lib.hid (below_then HB2.out hb3); have HC3 := HC.out _ HB3.out; clear hb3)
      | fail)
    refine hK.out _ _ (⟨HC3.1, HC3.2.2.1⟩) (fun _ => ?_)
    clear hK K
    refine wpAnyH_take (i := 6) (oi := _) (v := .bool false) rfl (by kernel_rfl) (by kernel_rfl) (by kernel_rfl) (fun _ _ _ h => h) (Or.inl ⟨by rfl, ?_⟩) (by trivial) ?_
    · intro w _
      go_simp
    simp only [Act.put, List.setIfInBounds_toArray, List.set_cons_zero, List.set_cons_succ, List.getElem_toArray, List.getElem_cons_succ, List.getElem_cons_zero]
    refine wpAnyH_take (i := 7) (oi := _) (v := .bool false) rfl (by kernel_rfl) (by kernel_rfl) (by kernel_rfl) (fun _ _ _ h => h) (Or.inl ⟨by rfl, ?_⟩) (by trivial) ?_
    · intro w _
      go_simp
    simp only [Act.put, List.setIfInBounds_toArray, List.set_cons_zero, List.set_cons_succ, List.getElem_toArray, List.getElem_cons_succ, List.getElem_cons_zero]
    refine wpAnyH_take (i := 8) (oi := _) (v := undef) rfl (by kernel_rfl) (by kernel_rfl) (by kernel_rfl) (fun _ _ _ h => h) (Or.inr ⟨by rfl, rfl⟩) (by trivial) ?_
    simp only [Act.put, List.setIfInBounds_toArray, List.set_cons_zero, List.set_cons_succ, List.getElem_toArray, List.getElem_cons_succ, List.getElem_cons_zero]
    refine wpAnyH_take (i := 9) (oi := _) (v := undef) rfl (by kernel_rfl) (by kernel_rfl) (by kernel_rfl) (fun _ _ _ h => h) (Or.inr ⟨by rfl, rfl⟩) (by trivial) ?_
    simp only [Act.put, List.setIfInBounds_toArray, List.set_cons_zero, List.set_cons_succ, List.getElem_toArray, List.getElem_cons_succ, List.getElem_cons_zero]
    refine wpAnyH_take (i := 10) (oi := _) (v := undef) rfl (by kernel_rfl) (by kernel_rfl) (by kernel_rfl) (fun _ _ _ h => h) (Or.inr ⟨by rfl, rfl⟩) (by trivial) ?_
    simp only [Act.put, List.setIfInBounds_toArray, List.set_cons_zero, List.set_cons_succ, List.getElem_toArray, List.getElem_cons_succ, List.getElem_cons_zero]
    refine wpAnyH_take (i := 11) (oi := _) (v := undef) rfl (by kernel_rfl) (by kernel_rfl) (by kernel_rfl) (fun _ _ _ h => h) (Or.inr ⟨by rfl, rfl⟩) (by trivial) ?_
    simp only [Act.put, List.setIfInBounds_toArray, List.set_cons_zero, List.set_cons_succ, List.getElem_toArray, List.getElem_cons_succ, List.getElem_cons_zero]
    refine wpAnyH_take (i := 12) (oi := _) (v := undef) rfl (by kernel_rfl) (by kernel_rfl) (by kernel_rfl) (fun _ _ _ h => h) (Or.inr ⟨by rfl, rfl⟩) (by trivial) ?_
    simp only [Act.put, List.setIfInBounds_toArray, List.set_cons_zero, List.set_cons_succ, List.getElem_toArray, List.getElem_cons_succ, List.getElem_cons_zero]
    refine wpAnyH_take (i := 13) (oi := _) (v := .bool false) rfl (by kernel_rfl) (by kernel_rfl) (by kernel_rfl) (fun _ _ _ h => h) (Or.inl ⟨by rfl, ?_⟩) (by trivial) ?_
    · intro w _
      go_simp
    simp only [Act.put, List.setIfInBounds_toArray, List.set_cons_zero, List.set_cons_succ, List.getElem_toArray, List.getElem_cons_succ, List.getElem_cons_zero]
    refine wpAnyH_take (i := 14) (oi := _) (v := .bool false) rfl (by kernel_rfl) (by kernel_rfl) (by kernel_rfl) (fun _ _ _ h => h) (Or.inl ⟨by rfl, ?_⟩) (by trivial) ?_
    · intro w _
      go_simp
    simp only [Act.put, List.setIfInBounds_toArray, List.set_cons_zero, List.set_cons_succ, List.getElem_toArray, List.getElem_cons_succ, List.getElem_cons_zero]
    refine wpAnyH_done (by kernel_rfl) ?_ _
    all_goals
      go_wp2
      go_ret
      exact ⟨rfl, below_then HBW.out HB3.out⟩

theorem trimS_le (l cs : List UInt8) : (Lib.trimS l cs).length ≤ l.length := by
  unfold Lib.trimS Lib.trimLeftS Lib.trimRightS
  refine Nat.le_trans (List.dropWhile_sublist _).length_le ?_
  simp only [List.length_reverse]
  exact Nat.le_trans (List.dropWhile_sublist _).length_le (by simp)
theorem oneF_sizes (s : List UInt8) : (oneF s).1.1.length ≤ s.length ∧ (oneF s).1.2.length ≤ s.length := by
  obtain ⟨h1, h2⟩ := cut_le s [58]
  refine ⟨h1, Nat.le_trans ?_ h2⟩
  exact trimS_le _ _
theorem splitF_sizes (s : List UInt8) : ∀ x ∈ (splitF s).1, x.1.length ≤ s.length ∧ x.2.length ≤ s.length := by
  intro x hx
  have hsum : ∀ (l : List (List UInt8 × Nat)) (g : List (List UInt8)) (b n : Nat), sumL g + sumP l ≤ n → ∀ t ∈ (gatherF l g b).1, t.length ≤ n := by
    intro l
    induction l with
    | nil =>
      intro g b n h t ht
      have := sumL_mem ht
      simp only [gatherF] at this
      omega
    | cons a r ih =>
      intro g b n h t ht
      obtain ⟨u, p⟩ := a
      unfold gatherF at ht
      have hp : sumP ((u, p) :: r) = u.length + sumP r := by simp [sumP]
      rw [hp] at h
      split at ht
      · have := sumL_mem (g := g) ht
        omega
      · exact ih (addLine g u) b n (by rw [addLine_sum]; omega) t ht
  have hg : ∀ t ∈ (gatherF (linesF s.length s 0) [] s.length).1, t.length ≤ s.length := hsum _ [] _ _ (by have := linesF_sum s.length s 0; simp [sumL]; omega)
  have hx2 : x ∈ fieldsF (gatherF (linesF s.length s 0) [] s.length).1 := hx
  generalize (gatherF (linesF s.length s 0) [] s.length).1 = G at hg hx2
  have hone : ∀ g : List (List UInt8), (∀ t ∈ g, t.length ≤ s.length) → x ∈ fieldsG g → x.1.length ≤ s.length ∧ x.2.length ≤ s.length := by
    intro g h hxg
    unfold fieldsG at hxg
    obtain ⟨t, ht, he⟩ := List.mem_filterMap.1 hxg
    split at he
    · injection he with he
      subst he
      have h1 := oneF_sizes t
      have h2 := h t ht
      omega
    · cases he
  cases G with
  | nil => simp [fieldsF] at hx2
  | cons a r =>
    rw [show fieldsF (a :: r) = fieldsG (if blankB a = true then r else a :: r) from rfl] at hx2
    split at hx2
    · exact hone r (fun t ht => hg t (by simp [ht])) hx2
    · exact hone (a :: r) hg hx2

end Go.Proofs.YtnfabgbidkddhaaGreatDoor
