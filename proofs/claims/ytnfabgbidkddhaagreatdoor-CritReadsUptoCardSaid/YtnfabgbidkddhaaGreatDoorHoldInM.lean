/-
  Whether an email is in a mailbox, by a number of a set: the walks of slices.IndexFunc and ContainsFunc over members and ranges, of within and inside.
-/
import Derived.Test.YtnfabgbidkddhaaGreatDoorHoldPM
namespace Go.Proofs.YtnfabgbidkddhaaGreatDoor
open Go.RowKit
attribute [local go_sem ↓] Go.wp_at_zero Go.wp_at_succ
def encP (x : Int × Int) : Value := .agg #[.int .i64 x.1, .int .i64 x.2]

set_option maxRecDepth 100000 in
set_option maxHeartbeats 2000000 in
theorem idxM_any (w : World) (v : Value) (l : List Rg) (hr : RdS w [] 2 v l.length (flatR l)) (q : FuncId) (caps : Array Value) (p : Int × Int → Bool) (heg : ∀ args W, (callFunc q args).run Tryz.prog W = .ok (.enter q args) W)
    (hp : ∀ x ∈ l, ∀ W, Below w.heap.size w W → Calls Tryz.prog q (#[encP x] ++ caps) W fun e W' => e = .returned (.bool (p x)) ∧ Below W.heap.size W W') :
    Calls Tryz.prog 94 #[v, .func (.func q) #[] caps] w (IxOut w (l.any p)) := by
  obtain ⟨ans, hans⟩ : ∃ ans, l.any p = ans := ⟨_, rfl⟩
  rw [hans]
  obtain ⟨n, hn⟩ : ∃ n, l.length = n := ⟨_, rfl⟩
  rw [hn] at hr
  obtain ⟨A, cap, rfl, _, hcap⟩ := hr.form
  have hmb : n ≤ 9223372036854775807 := by
    unfold maxLen at hcap
    omega
  have HR := Lib.hid hr
  have HN := Lib.hid hn
  have HP := Lib.hid hp
  have HANS := Lib.hid hans
  clear hr hn hp hans
  go_enter Tryz.func94, Tryz.ntmps94
  go_wp2
  go_loopw [8] (fun i wr => ∃ k : Nat, k ≤ n ∧ i = .int .i64 k ∧ Hid ((l.take k).any p = false) ∧ Hid (Below w.heap.size w wr)) (fun i _ => n - (intOf i).toNat)
  case atStart => exact ⟨0, Nat.zero_le _, rfl, Lib.hid rfl, Lib.hid (Below.refl _ _)⟩
  case round =>
    obtain ⟨k, hk, rfl, HA, HB⟩ := hrel
    by_cases hlt : k < n
    · have hke : k < l.length := by rw [HN.out]; exact hlt
      obtain ⟨b, off, cap2, hva, _, _, hbl, _, hat⟩ := HR.out.at_ (by omega)
      injection hva with hva1 hva2 hva3
      subst hva1
      clear hva2 hva3
      obtain ⟨f0, f1⟩ := flatR_at l k hke
      have d0 : wr.cell? ⟨b, off + k * 2, none⟩ = some (.int .i64 l[k].1) := (HB.out.cell (p := ⟨b, off + k * 2, none⟩) hbl).trans ((hat (k * 2) (by omega)).trans f0)
      have d1 : wr.cell? ⟨b, off + k * 2 + 1, none⟩ = some (.int .i64 l[k].2) := (HB.out.cell (p := ⟨b, off + k * 2 + 1, none⟩) hbl).trans ((hat (k * 2 + 1) (by omega)).trans f1)
      have hcall := HP.out l[k] (List.getElem_mem hke) wr HB.out
      have hst := any_take l p k hke HA.out
      obtain ⟨x, hx⟩ : ∃ x, l[k] = x := ⟨_, rfl⟩
      rw [hx] at d0 d1 hcall hst
      obtain ⟨px, hpx⟩ : ∃ px, p x = px := ⟨_, rfl⟩
      rw [hpx] at hcall hst
      obtain ⟨xa, xb⟩ := x
      simp only [encP] at d0 d1 hcall
      have HST := Lib.hid hst
      clear hat f0 f1 hst hx hpx
      cases px with
      | true =>
        have ht : ans = true := by
          rw [← HANS.out, List.any_eq_true]
          obtain ⟨y, h1, h2⟩ := List.any_eq_true.1 HST.out
          exact ⟨y, List.mem_of_mem_take h1, h2⟩
        subst ht
        go_wp2_with (first
          | (refine hcall.mono ?_; rintro e w2 ⟨rfl, hb2⟩; have HB2 := Lib.hid (below_then HB.out hb2); clear hb2 hcall)
          | fail)
        go_ret
        exact ⟨_, rfl, by simp, HB2.out⟩
      | false =>
        go_wp2_with (first
          | (refine hcall.mono ?_; rintro e w2 ⟨rfl, hb2⟩; have HB2 := Lib.hid (below_then HB.out hb2); clear hb2 hcall)
          | fail)
        refine ⟨?_, by simp [intOf]; omega⟩
        first | exact ⟨k + 1, by omega, by go_num, HST, HB2⟩ | ((repeat apply Exists.intro); exact ⟨⟨k + 1, by omega, by go_num, HST, HB2⟩, rfl⟩)
    · have hkn : k = n := by omega
      subst hkn
      have hf : ans = false := by
        rw [← HANS.out]
        have h1 := HA.out
        rw [List.take_of_length_le (by rw [HN.out]; exact Nat.le_refl _)] at h1
        exact h1
      subst hf
      go_wp2
      go_ret
      exact ⟨_, rfl, by decide, HB.out⟩

set_option maxRecDepth 100000 in
theorem hasM_any (w : World) (v : Value) (l : List Rg) (hr : RdS w [] 2 v l.length (flatR l)) (q : FuncId) (caps : Array Value) (p : Int × Int → Bool) (heg : ∀ args W, (callFunc q args).run Tryz.prog W = .ok (.enter q args) W)
    (hp : ∀ x ∈ l, ∀ W, Below w.heap.size w W → Calls Tryz.prog q (#[encP x] ++ caps) W fun e W' => e = .returned (.bool (p x)) ∧ Below W.heap.size W W') :
    Calls Tryz.prog 55 #[v, .func (.func q) #[] caps] w fun e w' => e = .returned (.bool (l.any p)) ∧ Below w.heap.size w w' := by
  have hi := idxM_any w v l hr q caps p heg hp
  obtain ⟨A, cap, rfl, _, hcap⟩ := hr.form
  generalize l.length = n at *
  clear hr hp heg
  go_enter Tryz.func55, Tryz.ntmps55
  go_wp2_with (first
    | (go_at_call 94; refine hi.mono ?_; rintro e w2 ⟨r, rfl, hb, hb2⟩; have HB := Lib.hid hb; have HB2 := Lib.hid hb2; clear hb hb2 hi)
    | fail)
  go_ret
  exact ⟨ret_bool HB.out, HB2.out⟩

set_option maxRecDepth 100000 in
set_option maxHeartbeats 2000000 in
theorem idxR_any (w : World) (v : Value) (l : List Rg) (hr : RdS w [] 2 v l.length (flatR l)) (q : FuncId) (caps : Array Value) (p : Int × Int → Bool) (heg : ∀ args W, (callFunc q args).run Tryz.prog W = .ok (.enter q args) W)
    (hp : ∀ x ∈ l, ∀ W, Below w.heap.size w W → Calls Tryz.prog q (#[encP x] ++ caps) W fun e W' => e = .returned (.bool (p x)) ∧ Below W.heap.size W W') :
    Calls Tryz.prog 96 #[v, .func (.func q) #[] caps] w (IxOut w (l.any p)) := by
  obtain ⟨ans, hans⟩ : ∃ ans, l.any p = ans := ⟨_, rfl⟩
  rw [hans]
  obtain ⟨n, hn⟩ : ∃ n, l.length = n := ⟨_, rfl⟩
  rw [hn] at hr
  obtain ⟨A, cap, rfl, _, hcap⟩ := hr.form
  have hmb : n ≤ 9223372036854775807 := by
    unfold maxLen at hcap
    omega
  have HR := Lib.hid hr
  have HN := Lib.hid hn
  have HP := Lib.hid hp
  have HANS := Lib.hid hans
  clear hr hn hp hans
  go_enter Tryz.func96, Tryz.ntmps96
  go_wp2
  go_loopw [8] (fun i wr => ∃ k : Nat, k ≤ n ∧ i = .int .i64 k ∧ Hid ((l.take k).any p = false) ∧ Hid (Below w.heap.size w wr)) (fun i _ => n - (intOf i).toNat)
  case atStart => exact ⟨0, Nat.zero_le _, rfl, Lib.hid rfl, Lib.hid (Below.refl _ _)⟩
  case round =>
    obtain ⟨k, hk, rfl, HA, HB⟩ := hrel
    by_cases hlt : k < n
    · have hke : k < l.length := by rw [HN.out]; exact hlt
      obtain ⟨b, off, cap2, hva, _, _, hbl, _, hat⟩ := HR.out.at_ (by omega)
      injection hva with hva1 hva2 hva3
      subst hva1
      clear hva2 hva3
      obtain ⟨f0, f1⟩ := flatR_at l k hke
      have d0 : wr.cell? ⟨b, off + k * 2, none⟩ = some (.int .i64 l[k].1) := (HB.out.cell (p := ⟨b, off + k * 2, none⟩) hbl).trans ((hat (k * 2) (by omega)).trans f0)
      have d1 : wr.cell? ⟨b, off + k * 2 + 1, none⟩ = some (.int .i64 l[k].2) := (HB.out.cell (p := ⟨b, off + k * 2 + 1, none⟩) hbl).trans ((hat (k * 2 + 1) (by omega)).trans f1)
      have hcall := HP.out l[k] (List.getElem_mem hke) wr HB.out
      have hst := any_take l p k hke HA.out
      obtain ⟨x, hx⟩ : ∃ x, l[k] = x := ⟨_, rfl⟩
      rw [hx] at d0 d1 hcall hst
      obtain ⟨px, hpx⟩ : ∃ px, p x = px := ⟨_, rfl⟩
      rw [hpx] at hcall hst
      obtain ⟨xa, xb⟩ := x
      simp only [encP] at d0 d1 hcall
      have HST := Lib.hid hst
      clear hat f0 f1 hst hx hpx
      cases px with
      | true =>
        have ht : ans = true := by
          rw [← HANS.out, List.any_eq_true]
          obtain ⟨y, h1, h2⟩ := List.any_eq_true.1 HST.out
          exact ⟨y, List.mem_of_mem_take h1, h2⟩
        subst ht
        go_wp2_with (first
          | (refine hcall.mono ?_; rintro e w2 ⟨rfl, hb2⟩; have HB2 := Lib.hid (below_then HB.out hb2); clear hb2 hcall)
          | fail)
        go_ret
        exact ⟨_, rfl, by simp, HB2.out⟩
      | false =>
        go_wp2_with (first
          | (refine hcall.mono ?_; rintro e w2 ⟨rfl, hb2⟩; have HB2 := Lib.hid (below_then HB.out hb2); clear hb2 hcall)
          | fail)
        refine ⟨?_, by simp [intOf]; omega⟩
        first | exact ⟨k + 1, by omega, by go_num, HST, HB2⟩ | ((repeat apply Exists.intro); exact ⟨⟨k + 1, by omega, by go_num, HST, HB2⟩, rfl⟩)
    · have hkn : k = n := by omega
      subst hkn
      have hf : ans = false := by
        rw [← HANS.out]
        have h1 := HA.out
        rw [List.take_of_length_le (by rw [HN.out]; exact Nat.le_refl _)] at h1
        exact h1
      subst hf
      go_wp2
      go_ret
      exact ⟨_, rfl, by decide, HB.out⟩

set_option maxRecDepth 100000 in
theorem hasR_any (w : World) (v : Value) (l : List Rg) (hr : RdS w [] 2 v l.length (flatR l)) (q : FuncId) (caps : Array Value) (p : Int × Int → Bool) (heg : ∀ args W, (callFunc q args).run Tryz.prog W = .ok (.enter q args) W)
    (hp : ∀ x ∈ l, ∀ W, Below w.heap.size w W → Calls Tryz.prog q (#[encP x] ++ caps) W fun e W' => e = .returned (.bool (p x)) ∧ Below W.heap.size W W') :
    Calls Tryz.prog 61 #[v, .func (.func q) #[] caps] w fun e w' => e = .returned (.bool (l.any p)) ∧ Below w.heap.size w w' := by
  have hi := idxR_any w v l hr q caps p heg hp
  obtain ⟨A, cap, rfl, _, hcap⟩ := hr.form
  generalize l.length = n at *
  clear hr hp heg
  go_enter Tryz.func61, Tryz.ntmps61
  go_wp2_with (first
    | (go_at_call 96; refine hi.mono ?_; rintro e w2 ⟨r, rfl, hb, hb2⟩; have HB := Lib.hid hb; have HB2 := Lib.hid hb2; clear hb hb2 hi)
    | fail)
  go_ret
  exact ⟨ret_bool HB.out, HB2.out⟩

set_option maxRecDepth 100000 in
theorem inRng_any (w : World) (b3 : Nat) (bx ux : Int) (r : Int × Int) (h3 : Blk w b3 49 #[.int .i64 bx, .int .i64 ux]) :
    Calls Tryz.prog 62 #[encP r, .pointer (some ⟨b3, 0, none⟩)] w fun en w' => en = .returned (.bool (inR ux r)) ∧ Below w.heap.size w w' := by
  have e3 : w.cell? ⟨b3, 1, none⟩ = some (.int .i64 ux) := h3.cell 1
  have l3 := h3.lt
  obtain ⟨ra, rb⟩ := r
  clear h3
  unfold encP inR
  simp only
  by_cases h1 : ra ≤ ux
  · by_cases h2 : rb ≥ ux
    · have hd : (decide (ra ≤ ux) && decide (ux ≤ rb)) = true := by simp; omega
      rw [hd]
      have h2' : ux ≤ rb := by omega
      clear hd
      go_enter Tryz.func62, Tryz.ntmps62
      go_wp2
      go_ret
      exact ⟨ret_bool (by simp), (Below.refl _ _).alloc (Nat.le_refl _) _⟩
    · have hd : (decide (ra ≤ ux) && decide (ux ≤ rb)) = false := by simp; omega
      rw [hd]
      have h2' : ¬ ux ≤ rb := by omega
      clear hd
      go_enter Tryz.func62, Tryz.ntmps62
      go_wp2
      go_ret
      exact ⟨ret_bool (by simp), (Below.refl _ _).alloc (Nat.le_refl _) _⟩
  · have hd : (decide (ra ≤ ux) && decide (ux ≤ rb)) = false := by simp; omega
    rw [hd]
    have h1' : ¬ ux ≥ ra := by omega
    clear hd
    go_enter Tryz.func62, Tryz.ntmps62
    go_wp2
    go_ret
    exact ⟨ret_bool (by simp), (Below.refl _ _).alloc (Nat.le_refl _) _⟩

set_option maxRecDepth 100000 in
theorem inMem_any (w : World) (b3 b4 : Nat) (bx : Int) (v : Value) (set : List Rg) (x : Int × Int) (h3 : Blk w b3 3 #[.int .i64 bx]) (h4 : Blk w b4 55 #[v]) (hr : RdS w [] 2 v set.length (flatR set)) :
    Calls Tryz.prog 60 #[encP x, .pointer (some ⟨b3, 0, none⟩), .pointer (some ⟨b4, 0, none⟩)] w fun en w' => en = .returned (.bool (x.1 == bx && inL set x.2)) ∧ Below w.heap.size w w' := by
  have e3 : w.cell? ⟨b3, 0, none⟩ = some (.int .i64 bx) := h3.cell 0
  have e4 : w.cell? ⟨b4, 0, none⟩ = some v := h4.cell 0
  have l3 := h3.lt
  have l4 := h4.lt
  obtain ⟨xa, xb⟩ := x
  have hbW : Below w.heap.size w (w.alloc (.cells #[.int .i64 xa, .int .i64 xb] 49)) := (Below.refl _ _).alloc (Nat.le_refl _) _
  have hc := hasR_any (w.alloc (.cells #[.int .i64 xa, .int .i64 xb] 49)) v set (hr.below hbW) 62 #[.pointer (some ⟨w.heap.size, 0, none⟩)] (inR xb) (enters_of Tryz.func62 (by kernel_rfl) rfl)
    (fun r _ W hb => inRng_any W w.heap.size xa xb r ((Blk.new w _ _).below hb (by simp)))
  have HBW := Lib.hid hbW
  obtain ⟨A, c, rfl, _, _⟩ := hr.form
  unfold encP
  simp only
  rw [show set.any (inR xb) = inL set xb from rfl] at hc
  generalize inL set xb = r at hc ⊢
  generalize set.length = n at hc e4 hr
  clear h3 h4 hr hbW
  by_cases h1 : xa = bx
  · subst h1
    rw [beq_self_eq_true, Bool.true_and]
    go_enter Tryz.func60, Tryz.ntmps60
    go_wp2_with (first
      | (go_at_call 61; refine hc.mono ?_; rintro en w2 ⟨rfl, hb2⟩; have HB2 := Lib.hid (below_then HBW.out hb2); clear hb2 hc)
      | fail)
    go_ret
    exact ⟨rfl, HB2.out⟩
  · have h1' : (xa == bx) = false := by simpa using h1
    rw [h1', Bool.false_and]
    clear h1
    go_enter Tryz.func60, Tryz.ntmps60
    go_wp2_with (first
      | (go_at_call 61; refine hc.mono ?_; rintro en w2 ⟨rfl, hb2⟩; have HB2 := Lib.hid (below_then HBW.out hb2); clear hb2 hc)
      | fail)
    go_ret
    exact ⟨rfl, HBW.out⟩

set_option maxRecDepth 100000 in
theorem within_anyH (w : World) (g : Nat) (cs : Array Value) (mv v : Value) (mem set : List Rg) (bx : Int) (hE : Blk w g 83 cs) (h5 : w.cell? ⟨g, 5, none⟩ = some mv) (hm : RdS w [] 2 mv mem.length (flatR mem)) (hr : RdS w [] 2 v set.length (flatR set)) :
    Calls Tryz.prog 41 #[.pointer (some ⟨g, 0, none⟩), .int .i64 bx, v] w fun en w' => en = .returned (.bool (mem.any fun x => x.1 == bx && inL set x.2)) ∧ Below w.heap.size w w' := by
  have lg := hE.lt
  have hbW : Below w.heap.size w ((w.alloc (.cells #[.int .i64 bx] 3)).alloc (.cells #[v] 55)) := ((Below.refl _ _).alloc (Nat.le_refl _) _).alloc (by simp) _
  have hc := hasM_any ((w.alloc (.cells #[.int .i64 bx] 3)).alloc (.cells #[v] 55)) mv mem (hm.below hbW) 60 #[.pointer (some ⟨w.heap.size, 0, none⟩), .pointer (some ⟨w.heap.size + 1, 0, none⟩)] (fun x => x.1 == bx && inL set x.2) (enters_of Tryz.func60 (by kernel_rfl) rfl)
    (fun r _ W hb => inMem_any W _ _ bx v set r (((Blk.new w _ _).alloc _).below hb (by simp; omega)) ((blk_new2 w _ _ _).below hb (by simp)) ((hr.below hbW).below (hb.mono (by simp))))
  have HBW := Lib.hid hbW
  obtain ⟨A, c, rfl, _, _⟩ := hr.form
  obtain ⟨A2, c2, rfl, _, _⟩ := hm.form
  generalize (mem.any fun x => x.1 == bx && inL set x.2) = r at hc ⊢
  generalize set.length = n at *
  generalize mem.length = n2 at hc h5 hm
  clear hE hm hr hbW
  go_enter Tryz.func41, Tryz.ntmps41
  go_wp2_with (first
    | (go_at_call 55; refine hc.mono ?_; rintro en w2 ⟨rfl, hb2⟩; have HB2 := Lib.hid (below_then HBW.out hb2); clear hb2 hc)
    | fail)
  go_ret
  exact ⟨rfl, HB2.out⟩

set_option maxRecDepth 100000 in
theorem isMem_any (w : World) (b3 b4 : Nat) (bx : Int) (ot : Bool) (x : Int × Int) (h3 : Blk w b3 3 #[.int .i64 bx]) (h4 : Blk w b4 4 #[.bool ot]) :
    Calls Tryz.prog 56 #[encP x, .pointer (some ⟨b3, 0, none⟩), .pointer (some ⟨b4, 0, none⟩)] w fun en w' => en = .returned (.bool ((x.1 == bx) != ot)) ∧ Below w.heap.size w w' := by
  have e3 : w.cell? ⟨b3, 0, none⟩ = some (.int .i64 bx) := h3.cell 0
  have e4 : w.cell? ⟨b4, 0, none⟩ = some (.bool ot) := h4.cell 0
  have l3 := h3.lt
  have l4 := h4.lt
  obtain ⟨xa, xb⟩ := x
  unfold encP
  simp only
  clear h3 h4
  go_enter Tryz.func56, Tryz.ntmps56
  go_wp2
  go_ret
  exact ⟨rfl, (Below.refl _ _).alloc (Nat.le_refl _) _⟩

set_option maxRecDepth 100000 in
theorem inside_anyH (w : World) (g : Nat) (cs : Array Value) (mv : Value) (mem : List Rg) (bx : Int) (ot : Bool) (hE : Blk w g 83 cs) (h5 : w.cell? ⟨g, 5, none⟩ = some mv) (hm : RdS w [] 2 mv mem.length (flatR mem)) :
    Calls Tryz.prog 34 #[.pointer (some ⟨g, 0, none⟩), .int .i64 bx, .bool ot] w fun en w' => en = .returned (.bool (mem.any fun x => (x.1 == bx) != ot)) ∧ Below w.heap.size w w' := by
  have lg := hE.lt
  have hbW : Below w.heap.size w ((w.alloc (.cells #[.int .i64 bx] 3)).alloc (.cells #[.bool ot] 4)) := ((Below.refl _ _).alloc (Nat.le_refl _) _).alloc (by simp) _
  have hc := hasM_any ((w.alloc (.cells #[.int .i64 bx] 3)).alloc (.cells #[.bool ot] 4)) mv mem (hm.below hbW) 56 #[.pointer (some ⟨w.heap.size, 0, none⟩), .pointer (some ⟨w.heap.size + 1, 0, none⟩)] (fun x => (x.1 == bx) != ot) (enters_of Tryz.func56 (by kernel_rfl) rfl)
    (fun r _ W hb => isMem_any W _ _ bx ot r (((Blk.new w _ _).alloc _).below hb (by simp; omega)) ((blk_new2 w _ _ _).below hb (by simp)))
  have HBW := Lib.hid hbW
  obtain ⟨A2, c2, rfl, _, _⟩ := hm.form
  generalize (mem.any fun x => (x.1 == bx) != ot) = r at hc ⊢
  generalize mem.length = n2 at hc h5 hm
  clear hE hm hbW
  go_enter Tryz.func34, Tryz.ntmps34
  go_wp2_with (first
    | (go_at_call 55; refine hc.mono ?_; rintro en w2 ⟨rfl, hb2⟩; have HB2 := Lib.hid (below_then HBW.out hb2); clear hb2 hc)
    | fail)
  go_ret
  exact ⟨rfl, HB2.out⟩

end Go.Proofs.YtnfabgbidkddhaaGreatDoor
