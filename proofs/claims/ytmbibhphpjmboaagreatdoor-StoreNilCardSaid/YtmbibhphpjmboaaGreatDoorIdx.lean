/-
  The walks of slices.IndexFunc and slices.ContainsFunc at mailboxes, emails, members and numbers: the closure may lay blocks of its own, and is asked of the elements alone.
-/
import Derived.Test.YtmbibhphpjmboaaGreatDoorStoreAt
import Derived.Test.YtmbibhphpjmboaaGreatDoorStoreFit4
import Derived.Test.YtmbibhphpjmboaaGreatDoorInts
import Derived.Shelf.SlicesQ.IndexFunc
import Derived.Deep.QuietTactic
import Derived.BigQuiet
import Derived.Deep.RegionLaw
import Derived.Deep.DrawnRows
import Derived.Deep.DeepCutAuto
import Derived.Deep.CutBlock
namespace Go.Proofs.YtmbibhphpjmboaaGreatDoor
open Go.Shelf Go.RowKit Go.Lib
attribute [local go_sem ↓] Go.wp_at_zero Go.wp_at_succ

theorem place_hit {α : Type} [Inhabited α] (p : α → Bool) : ∀ (l : List α) (k : Nat), k < l.length → p l[k]! = true → (∀ j, j < k → p l[j]! = false) → place p l = k
  | x :: r, 0, _, h, _ => by
    have : p x = true := by simpa using h
    simp [place, this]
  | x :: r, k + 1, hk, h, hj => by
    have h0 : p x = false := by simpa using hj 0 (by omega)
    have ih := place_hit p r k (by simpa using hk) (by simpa using h) (fun j hj2 => by simpa using hj (j + 1) (by omega))
    unfold place
    rw [h0, ih]
    simp
    omega
theorem place_miss {α : Type} [Inhabited α] (p : α → Bool) (l : List α) (h : ∀ j, j < l.length → p l[j]! = false) : place p l = -1 := by
  refine place_neg p l ?_
  rw [List.any_eq_false]
  intro x hx
  obtain ⟨j, hj, rfl⟩ := List.getElem_of_mem hx
  have := h j hj
  rw [getElem!_pos l j hj] at this
  simp [this]
theorem any_place {α : Type} (p : α → Bool) (l : List α) : l.any p = decide (0 ≤ place p l) := by
  cases h : l.any p with
  | true => simp [place_pos p l h]
  | false => simp [place_neg p l h]
theorem len6 {l : List Value} (h : l.length = 6) : ∃ a b c d e f, l = [a, b, c, d, e, f] := by
  rcases l with _ | ⟨a, _ | ⟨b, _ | ⟨c, _ | ⟨d, _ | ⟨e, _ | ⟨f, _ | ⟨u, v⟩⟩⟩⟩⟩⟩⟩ <;> first | exact ⟨_, _, _, _, _, _, rfl⟩ | (exfalso; simp at h; done) | (exfalso; simp at h; omega)
theorem len8 {l : List Value} (h : l.length = 8) : ∃ a b c d e f i j, l = [a, b, c, d, e, f, i, j] := by
  rcases l with _ | ⟨a, _ | ⟨b, _ | ⟨c, _ | ⟨d, _ | ⟨e, _ | ⟨f, _ | ⟨i, _ | ⟨j, _ | ⟨u, v⟩⟩⟩⟩⟩⟩⟩⟩⟩ <;> first | exact ⟨_, _, _, _, _, _, _, _, rfl⟩ | (exfalso; simp at h; done) | (exfalso; simp at h; omega)
theorem len2 {l : List Value} (h : l.length = 2) : ∃ a b, l = [a, b] := by
  rcases l with _ | ⟨a, _ | ⟨b, _ | ⟨u, v⟩⟩⟩ <;> first | exact ⟨_, _, rfl⟩ | (exfalso; simp at h; done) | (exfalso; simp at h; omega)
theorem mem_get! {α : Type} [Inhabited α] {l : List α} {j : Nat} (hj : j < l.length) : l[j]! ∈ l := by
  rw [getElem!_pos l j hj]
  exact List.getElem_mem hj
instance : Inhabited MailM := ⟨⟨default, default, default⟩⟩

set_option maxHeartbeats 2000000 in
theorem idxB_own {α : Type} [Inhabited α] (enc : α → List Value) (hk : ∀ x, (enc x).length = 6) (p : α → Bool) (g : Nat) (lb : Array Value) (eg : ∀ args w, (callFunc g args).run Tryz.prog w = .ok (.enter g args) w) (b off n c : Nat) (zs : List α) (w : World)
    (hp : ∀ W, Below w.heap.size w W → ∀ x ∈ zs, Calls Tryz.prog g (#[.agg (enc x).toArray] ++ lb) W fun e w' => e = .returned (.bool (p x)) ∧ Below w.heap.size w w') (hz : zs.length = n) (hbig : n ≤ 9223372036854775807) (hb : b < w.heap.size)
    (hc : ∀ j, j < zs.length → ∀ i v, (enc zs[j]!)[i]? = some v → w.cell? ⟨b, off + j * 6 + i, none⟩ = some v) :
    Calls Tryz.prog 128 #[.slice (some ⟨b, off, none⟩) n c, .func (.func g) #[] lb] w fun e w' => e = .returned (.int .i64 (place p zs)) ∧ Below w.heap.size w w' := by
  have hrow : ∀ (W : World), Below w.heap.size w W → ∀ j, j < zs.length → ∀ i v, (enc zs[j]!)[i]? = some v → W.cell? ⟨b, off + j * 6 + i, none⟩ = some v := fun W hW j hj i v hi => (hW.cell (p := ⟨b, off + j * 6 + i, none⟩) hb).trans (hc j hj i v hi)
  clear hc
  go_enter Tryz.func128, Tryz.ntmps128
  go_wp2
  go_loopg [5, 8] n (fun gg _ s8 wr => ∃ kk : Nat, kk ≤ n ∧ n - kk ≤ gg ∧ s8 = .int .i64 kk ∧ Aside (Below w.heap.size w wr) ∧ Aside (∀ j, j < kk → p zs[j]! = false))
  case atStart => exact ⟨0, Nat.zero_le _, by omega, rfl, Below.refl _ w, fun j hj => absurd hj (Nat.not_lt_zero _)⟩
  case round =>
    obtain ⟨kk, hkk, hg, rfl, BW, A⟩ := hrel
    by_cases hlt : kk < n
    · have hltz : (kk : Int) < (n : Int) := by omega
      have l2 := hrow wr BW.out kk (by omega)
      have hcall := hp wr BW.out zs[kk]! (mem_get! (by omega))
      clear hrow hp
      generalize hy : zs[kk]! = y at l2 hcall
      have B : Aside (zs[kk]! = y) := hy
      clear hy
      obtain ⟨u0, u1, u2, u3, u4, u5, hv⟩ := len6 (hk y)
      rw [hv] at l2 hcall
      have d0 : wr.cell? ⟨b, off + kk * 6, none⟩ = some u0 := l2 0 u0 rfl
      have d1 : wr.cell? ⟨b, off + kk * 6 + 1, none⟩ = some u1 := l2 1 u1 rfl
      have d2 : wr.cell? ⟨b, off + kk * 6 + 2, none⟩ = some u2 := l2 2 u2 rfl
      have d3 : wr.cell? ⟨b, off + kk * 6 + 3, none⟩ = some u3 := l2 3 u3 rfl
      have d4 : wr.cell? ⟨b, off + kk * 6 + 4, none⟩ = some u4 := l2 4 u4 rfl
      have d5 : wr.cell? ⟨b, off + kk * 6 + 5, none⟩ = some u5 := l2 5 u5 rfl
      have hcall : Calls Tryz.prog g (#[.agg #[u0, u1, u2, u3, u4, u5]] ++ lb) wr fun e w' => e = .returned (.bool (p y)) ∧ Below w.heap.size w w' := hcall
      have HV := Lib.hid hv
      clear l2 hv
      cases hq : p y with
      | true =>
        rw [hq] at hcall
        go_wp2_with (go_at_fn g; refine hcall.mono ?_; rintro e w' ⟨rfl, hb'⟩)
        go_ret
        refine ⟨?_, hb'⟩
        rw [place_hit p zs kk (by omega) (by rw [B.out]; exact hq) A.out]
        rfl
      | false =>
        rw [hq] at hcall
        go_wp2_with (go_at_fn g; refine hcall.mono ?_; rintro e w' ⟨rfl, hb'⟩)
        go_roundg (n - (kk + 1))
        case measure => omega
        case rel =>
          refine ⟨kk + 1, by omega, by omega, by go_num, hb', (show Aside _ from fun j hj => ?_)⟩
          by_cases e : j = kk
          · subst e
            rw [B.out]; exact hq
          · exact A.out j (by omega)
    · have hltz : ¬ (kk : Int) < (n : Int) := by omega
      have : kk = n := by omega
      subst this
      go_wp2
      go_ret
      refine ⟨?_, BW.out⟩
      rw [place_miss p zs (fun j hj => A.out j (by omega))]
      rfl

set_option maxHeartbeats 1000000 in
theorem idxB_empty (a : Option Addr) (c : Nat) (fv : Value) (w : World) :
    Calls Tryz.prog 128 #[.slice a 0 c, fv] w fun e w' => e = .returned (.int .i64 (-1)) ∧ w' = w := by
  go_enter Tryz.func128, Tryz.ntmps128
  go_wp2
  go_loopg [5, 8] 0 (fun _ _ s8 wr => s8 = .int .i64 0 ∧ wr = w)
  case atStart => exact ⟨rfl, rfl⟩
  case round =>
    obtain ⟨rfl, rfl⟩ := hrel
    go_wp2
    go_ret
    exact ⟨rfl, rfl⟩

theorem idxB_any (v : Value) (S : List Nat) (l : List BoxP) (p : BoxP → Bool) (g : Nat) (lb : Array Value) (eg : ∀ args w, (callFunc g args).run Tryz.prog w = .ok (.enter g args) w) (w : World) (hr : RdS w S 6 v l.length (flatG encB l)) (hn : l.length ≤ 1099511627776)
    (hp : ∀ W, Below w.heap.size w W → ∀ x ∈ l, Calls Tryz.prog g (#[.agg (encB x).toArray] ++ lb) W fun e w' => e = .returned (.bool (p x)) ∧ Below w.heap.size w w') :
    Calls Tryz.prog 128 #[v, .func (.func g) #[] lb] w fun e w' => e = .returned (.int .i64 (place p l)) ∧ Below w.heap.size w w' := by
  rcases Nat.eq_zero_or_pos l.length with h0 | hpos
  · obtain rfl : l = [] := List.eq_nil_of_length_eq_zero h0
    obtain ⟨A, cap, rfl, _, _⟩ := hr.form
    refine (idxB_empty A cap _ w).mono ?_
    rintro e w' ⟨rfl, rfl⟩
    exact ⟨rfl, Below.refl _ _⟩
  · obtain ⟨b, off, cap, rfl, _, _, hlt, _, hat⟩ := hr.at_ hpos
    exact idxB_own encB encB_length p g lb eg b off l.length cap l w hp rfl (by omega) hlt (fun j hj i v hv => by
      rw [getElem!_pos l j hj] at hv
      have h2 : i < 6 := by
        have := (List.getElem?_eq_some_iff.1 hv).1
        rw [encB_length] at this
        exact this
      rw [show off + j * 6 + i = off + (j * 6 + i) by omega, hat _ (by omega), flatG_get encB_length l j i hj h2]
      exact hv)
theorem hasB_any (v : Value) (S : List Nat) (l : List BoxP) (p : BoxP → Bool) (g : Nat) (lb : Array Value) (eg : ∀ args w, (callFunc g args).run Tryz.prog w = .ok (.enter g args) w) (w : World) (hr : RdS w S 6 v l.length (flatG encB l)) (hn : l.length ≤ 1099511627776)
    (hp : ∀ W, Below w.heap.size w W → ∀ x ∈ l, Calls Tryz.prog g (#[.agg (encB x).toArray] ++ lb) W fun e w' => e = .returned (.bool (p x)) ∧ Below w.heap.size w w') :
    Calls Tryz.prog 76 #[v, .func (.func g) #[] lb] w fun e w' => e = .returned (.bool (l.any p)) ∧ Below w.heap.size w w' := by
  have hi := idxB_any v S l p g lb eg w hr hn hp
  rw [any_place]
  generalize place p l = r at hi
  clear hp hr hn eg
  go_enter Tryz.func76, Tryz.ntmps76
  go_wp2_with (go_at_call 128; refine hi.mono ?_; rintro e w' ⟨rfl, hb'⟩)
  go_ret
  exact ⟨rfl, hb'⟩

set_option maxHeartbeats 2000000 in
theorem idxM_own {α : Type} [Inhabited α] (enc : α → List Value) (hk : ∀ x, (enc x).length = 8) (p : α → Bool) (g : Nat) (lb : Array Value) (eg : ∀ args w, (callFunc g args).run Tryz.prog w = .ok (.enter g args) w) (b off n c : Nat) (zs : List α) (w : World)
    (hp : ∀ W, Below w.heap.size w W → ∀ x ∈ zs, Calls Tryz.prog g (#[.agg (enc x).toArray] ++ lb) W fun e w' => e = .returned (.bool (p x)) ∧ Below w.heap.size w w') (hz : zs.length = n) (hbig : n ≤ 9223372036854775807) (hb : b < w.heap.size)
    (hc : ∀ j, j < zs.length → ∀ i v, (enc zs[j]!)[i]? = some v → w.cell? ⟨b, off + j * 8 + i, none⟩ = some v) :
    Calls Tryz.prog 122 #[.slice (some ⟨b, off, none⟩) n c, .func (.func g) #[] lb] w fun e w' => e = .returned (.int .i64 (place p zs)) ∧ Below w.heap.size w w' := by
  have hrow : ∀ (W : World), Below w.heap.size w W → ∀ j, j < zs.length → ∀ i v, (enc zs[j]!)[i]? = some v → W.cell? ⟨b, off + j * 8 + i, none⟩ = some v := fun W hW j hj i v hi => (hW.cell (p := ⟨b, off + j * 8 + i, none⟩) hb).trans (hc j hj i v hi)
  clear hc
  go_enter Tryz.func122, Tryz.ntmps122
  go_wp2
  go_loopg [5, 8] n (fun gg _ s8 wr => ∃ kk : Nat, kk ≤ n ∧ n - kk ≤ gg ∧ s8 = .int .i64 kk ∧ Aside (Below w.heap.size w wr) ∧ Aside (∀ j, j < kk → p zs[j]! = false))
  case atStart => exact ⟨0, Nat.zero_le _, by omega, rfl, Below.refl _ w, fun j hj => absurd hj (Nat.not_lt_zero _)⟩
  case round =>
    obtain ⟨kk, hkk, hg, rfl, BW, A⟩ := hrel
    by_cases hlt : kk < n
    · have hltz : (kk : Int) < (n : Int) := by omega
      have l2 := hrow wr BW.out kk (by omega)
      have hcall := hp wr BW.out zs[kk]! (mem_get! (by omega))
      clear hrow hp
      generalize hy : zs[kk]! = y at l2 hcall
      have B : Aside (zs[kk]! = y) := hy
      clear hy
      obtain ⟨u0, u1, u2, u3, u4, u5, u6, u7, hv⟩ := len8 (hk y)
      rw [hv] at l2 hcall
      have d0 : wr.cell? ⟨b, off + kk * 8, none⟩ = some u0 := l2 0 u0 rfl
      have d1 : wr.cell? ⟨b, off + kk * 8 + 1, none⟩ = some u1 := l2 1 u1 rfl
      have d2 : wr.cell? ⟨b, off + kk * 8 + 2, none⟩ = some u2 := l2 2 u2 rfl
      have d3 : wr.cell? ⟨b, off + kk * 8 + 3, none⟩ = some u3 := l2 3 u3 rfl
      have d4 : wr.cell? ⟨b, off + kk * 8 + 4, none⟩ = some u4 := l2 4 u4 rfl
      have d5 : wr.cell? ⟨b, off + kk * 8 + 5, none⟩ = some u5 := l2 5 u5 rfl
      have d6 : wr.cell? ⟨b, off + kk * 8 + 6, none⟩ = some u6 := l2 6 u6 rfl
      have d7 : wr.cell? ⟨b, off + kk * 8 + 7, none⟩ = some u7 := l2 7 u7 rfl
      have hcall : Calls Tryz.prog g (#[.agg #[u0, u1, u2, u3, u4, u5, u6, u7]] ++ lb) wr fun e w' => e = .returned (.bool (p y)) ∧ Below w.heap.size w w' := hcall
      have HV := Lib.hid hv
      clear l2 hv
      cases hq : p y with
      | true =>
        rw [hq] at hcall
        go_wp2_with (go_at_fn g; refine hcall.mono ?_; rintro e w' ⟨rfl, hb'⟩)
        go_ret
        refine ⟨?_, hb'⟩
        rw [place_hit p zs kk (by omega) (by rw [B.out]; exact hq) A.out]
        rfl
      | false =>
        rw [hq] at hcall
        go_wp2_with (go_at_fn g; refine hcall.mono ?_; rintro e w' ⟨rfl, hb'⟩)
        go_roundg (n - (kk + 1))
        case measure => omega
        case rel =>
          refine ⟨kk + 1, by omega, by omega, by go_num, hb', (show Aside _ from fun j hj => ?_)⟩
          by_cases e : j = kk
          · subst e
            rw [B.out]; exact hq
          · exact A.out j (by omega)
    · have hltz : ¬ (kk : Int) < (n : Int) := by omega
      have : kk = n := by omega
      subst this
      go_wp2
      go_ret
      refine ⟨?_, BW.out⟩
      rw [place_miss p zs (fun j hj => A.out j (by omega))]
      rfl

set_option maxHeartbeats 1000000 in
theorem idxM_empty (a : Option Addr) (c : Nat) (fv : Value) (w : World) :
    Calls Tryz.prog 122 #[.slice a 0 c, fv] w fun e w' => e = .returned (.int .i64 (-1)) ∧ w' = w := by
  go_enter Tryz.func122, Tryz.ntmps122
  go_wp2
  go_loopg [5, 8] 0 (fun _ _ s8 wr => s8 = .int .i64 0 ∧ wr = w)
  case atStart => exact ⟨rfl, rfl⟩
  case round =>
    obtain ⟨rfl, rfl⟩ := hrel
    go_wp2
    go_ret
    exact ⟨rfl, rfl⟩

theorem idxM_any (v : Value) (S : List Nat) (l : List MailM) (p : MailM → Bool) (g : Nat) (lb : Array Value) (eg : ∀ args w, (callFunc g args).run Tryz.prog w = .ok (.enter g args) w) (w : World) (hr : RdS w S 8 v l.length (flatG encM l)) (hn : l.length ≤ 1099511627776)
    (hp : ∀ W, Below w.heap.size w W → ∀ x ∈ l, Calls Tryz.prog g (#[.agg (encM x).toArray] ++ lb) W fun e w' => e = .returned (.bool (p x)) ∧ Below w.heap.size w w') :
    Calls Tryz.prog 122 #[v, .func (.func g) #[] lb] w fun e w' => e = .returned (.int .i64 (place p l)) ∧ Below w.heap.size w w' := by
  rcases Nat.eq_zero_or_pos l.length with h0 | hpos
  · obtain rfl : l = [] := List.eq_nil_of_length_eq_zero h0
    obtain ⟨A, cap, rfl, _, _⟩ := hr.form
    refine (idxM_empty A cap _ w).mono ?_
    rintro e w' ⟨rfl, rfl⟩
    exact ⟨rfl, Below.refl _ _⟩
  · obtain ⟨b, off, cap, rfl, _, _, hlt, _, hat⟩ := hr.at_ hpos
    exact idxM_own encM encM_length p g lb eg b off l.length cap l w hp rfl (by omega) hlt (fun j hj i v hv => by
      rw [getElem!_pos l j hj] at hv
      have h2 : i < 8 := by
        have := (List.getElem?_eq_some_iff.1 hv).1
        rw [encM_length] at this
        exact this
      rw [show off + j * 8 + i = off + (j * 8 + i) by omega, hat _ (by omega), flatG_get encM_length l j i hj h2]
      exact hv)
theorem hasM_any (v : Value) (S : List Nat) (l : List MailM) (p : MailM → Bool) (g : Nat) (lb : Array Value) (eg : ∀ args w, (callFunc g args).run Tryz.prog w = .ok (.enter g args) w) (w : World) (hr : RdS w S 8 v l.length (flatG encM l)) (hn : l.length ≤ 1099511627776)
    (hp : ∀ W, Below w.heap.size w W → ∀ x ∈ l, Calls Tryz.prog g (#[.agg (encM x).toArray] ++ lb) W fun e w' => e = .returned (.bool (p x)) ∧ Below w.heap.size w w') :
    Calls Tryz.prog 72 #[v, .func (.func g) #[] lb] w fun e w' => e = .returned (.bool (l.any p)) ∧ Below w.heap.size w w' := by
  have hi := idxM_any v S l p g lb eg w hr hn hp
  rw [any_place]
  generalize place p l = r at hi
  clear hp hr hn eg
  go_enter Tryz.func72, Tryz.ntmps72
  go_wp2_with (go_at_call 122; refine hi.mono ?_; rintro e w' ⟨rfl, hb'⟩)
  go_ret
  exact ⟨rfl, hb'⟩

set_option maxHeartbeats 2000000 in
theorem idxP_own {α : Type} [Inhabited α] (enc : α → List Value) (hk : ∀ x, (enc x).length = 2) (p : α → Bool) (g : Nat) (lb : Array Value) (eg : ∀ args w, (callFunc g args).run Tryz.prog w = .ok (.enter g args) w) (b off n c : Nat) (zs : List α) (w : World)
    (hp : ∀ W, Below w.heap.size w W → ∀ x ∈ zs, Calls Tryz.prog g (#[.agg (enc x).toArray] ++ lb) W fun e w' => e = .returned (.bool (p x)) ∧ Below w.heap.size w w') (hz : zs.length = n) (hbig : n ≤ 9223372036854775807) (hb : b < w.heap.size)
    (hc : ∀ j, j < zs.length → ∀ i v, (enc zs[j]!)[i]? = some v → w.cell? ⟨b, off + j * 2 + i, none⟩ = some v) :
    Calls Tryz.prog 134 #[.slice (some ⟨b, off, none⟩) n c, .func (.func g) #[] lb] w fun e w' => e = .returned (.int .i64 (place p zs)) ∧ Below w.heap.size w w' := by
  have hrow : ∀ (W : World), Below w.heap.size w W → ∀ j, j < zs.length → ∀ i v, (enc zs[j]!)[i]? = some v → W.cell? ⟨b, off + j * 2 + i, none⟩ = some v := fun W hW j hj i v hi => (hW.cell (p := ⟨b, off + j * 2 + i, none⟩) hb).trans (hc j hj i v hi)
  clear hc
  go_enter Tryz.func134, Tryz.ntmps134
  go_wp2
  go_loopg [5, 8] n (fun gg _ s8 wr => ∃ kk : Nat, kk ≤ n ∧ n - kk ≤ gg ∧ s8 = .int .i64 kk ∧ Aside (Below w.heap.size w wr) ∧ Aside (∀ j, j < kk → p zs[j]! = false))
  case atStart => exact ⟨0, Nat.zero_le _, by omega, rfl, Below.refl _ w, fun j hj => absurd hj (Nat.not_lt_zero _)⟩
  case round =>
    obtain ⟨kk, hkk, hg, rfl, BW, A⟩ := hrel
    by_cases hlt : kk < n
    · have hltz : (kk : Int) < (n : Int) := by omega
      have l2 := hrow wr BW.out kk (by omega)
      have hcall := hp wr BW.out zs[kk]! (mem_get! (by omega))
      clear hrow hp
      generalize hy : zs[kk]! = y at l2 hcall
      have B : Aside (zs[kk]! = y) := hy
      clear hy
      obtain ⟨u0, u1, hv⟩ := len2 (hk y)
      rw [hv] at l2 hcall
      have d0 : wr.cell? ⟨b, off + kk * 2, none⟩ = some u0 := l2 0 u0 rfl
      have d1 : wr.cell? ⟨b, off + kk * 2 + 1, none⟩ = some u1 := l2 1 u1 rfl
      have hcall : Calls Tryz.prog g (#[.agg #[u0, u1]] ++ lb) wr fun e w' => e = .returned (.bool (p y)) ∧ Below w.heap.size w w' := hcall
      have HV := Lib.hid hv
      clear l2 hv
      cases hq : p y with
      | true =>
        rw [hq] at hcall
        go_wp2_with (go_at_fn g; refine hcall.mono ?_; rintro e w' ⟨rfl, hb'⟩)
        go_ret
        refine ⟨?_, hb'⟩
        rw [place_hit p zs kk (by omega) (by rw [B.out]; exact hq) A.out]
        rfl
      | false =>
        rw [hq] at hcall
        go_wp2_with (go_at_fn g; refine hcall.mono ?_; rintro e w' ⟨rfl, hb'⟩)
        go_roundg (n - (kk + 1))
        case measure => omega
        case rel =>
          refine ⟨kk + 1, by omega, by omega, by go_num, hb', (show Aside _ from fun j hj => ?_)⟩
          by_cases e : j = kk
          · subst e
            rw [B.out]; exact hq
          · exact A.out j (by omega)
    · have hltz : ¬ (kk : Int) < (n : Int) := by omega
      have : kk = n := by omega
      subst this
      go_wp2
      go_ret
      refine ⟨?_, BW.out⟩
      rw [place_miss p zs (fun j hj => A.out j (by omega))]
      rfl

set_option maxHeartbeats 1000000 in
theorem idxP_empty (a : Option Addr) (c : Nat) (fv : Value) (w : World) :
    Calls Tryz.prog 134 #[.slice a 0 c, fv] w fun e w' => e = .returned (.int .i64 (-1)) ∧ w' = w := by
  go_enter Tryz.func134, Tryz.ntmps134
  go_wp2
  go_loopg [5, 8] 0 (fun _ _ s8 wr => s8 = .int .i64 0 ∧ wr = w)
  case atStart => exact ⟨rfl, rfl⟩
  case round =>
    obtain ⟨rfl, rfl⟩ := hrel
    go_wp2
    go_ret
    exact ⟨rfl, rfl⟩

theorem idxP_any (v : Value) (S : List Nat) (l : List (Int × Int)) (p : (Int × Int) → Bool) (g : Nat) (lb : Array Value) (eg : ∀ args w, (callFunc g args).run Tryz.prog w = .ok (.enter g args) w) (w : World) (hr : RdS w S 2 v l.length (flatG encMem l)) (hn : l.length ≤ 1099511627776)
    (hp : ∀ W, Below w.heap.size w W → ∀ x ∈ l, Calls Tryz.prog g (#[.agg (encMem x).toArray] ++ lb) W fun e w' => e = .returned (.bool (p x)) ∧ Below w.heap.size w w') :
    Calls Tryz.prog 134 #[v, .func (.func g) #[] lb] w fun e w' => e = .returned (.int .i64 (place p l)) ∧ Below w.heap.size w w' := by
  rcases Nat.eq_zero_or_pos l.length with h0 | hpos
  · obtain rfl : l = [] := List.eq_nil_of_length_eq_zero h0
    obtain ⟨A, cap, rfl, _, _⟩ := hr.form
    refine (idxP_empty A cap _ w).mono ?_
    rintro e w' ⟨rfl, rfl⟩
    exact ⟨rfl, Below.refl _ _⟩
  · obtain ⟨b, off, cap, rfl, _, _, hlt, _, hat⟩ := hr.at_ hpos
    exact idxP_own encMem encMem_length p g lb eg b off l.length cap l w hp rfl (by omega) hlt (fun j hj i v hv => by
      rw [getElem!_pos l j hj] at hv
      have h2 : i < 2 := by
        have := (List.getElem?_eq_some_iff.1 hv).1
        rw [encMem_length] at this
        exact this
      rw [show off + j * 2 + i = off + (j * 2 + i) by omega, hat _ (by omega), flatG_get encMem_length l j i hj h2]
      exact hv)
theorem hasP_any (v : Value) (S : List Nat) (l : List (Int × Int)) (p : (Int × Int) → Bool) (g : Nat) (lb : Array Value) (eg : ∀ args w, (callFunc g args).run Tryz.prog w = .ok (.enter g args) w) (w : World) (hr : RdS w S 2 v l.length (flatG encMem l)) (hn : l.length ≤ 1099511627776)
    (hp : ∀ W, Below w.heap.size w W → ∀ x ∈ l, Calls Tryz.prog g (#[.agg (encMem x).toArray] ++ lb) W fun e w' => e = .returned (.bool (p x)) ∧ Below w.heap.size w w') :
    Calls Tryz.prog 131 #[v, .func (.func g) #[] lb] w fun e w' => e = .returned (.bool (l.any p)) ∧ Below w.heap.size w w' := by
  have hi := idxP_any v S l p g lb eg w hr hn hp
  rw [any_place]
  generalize place p l = r at hi
  clear hp hr hn eg
  go_enter Tryz.func131, Tryz.ntmps131
  go_wp2_with (go_at_call 134; refine hi.mono ?_; rintro e w' ⟨rfl, hb'⟩)
  go_ret
  exact ⟨rfl, hb'⟩

set_option maxHeartbeats 2000000 in
theorem idxI_own (p : Int → Bool) (g : Nat) (lb : Array Value) (eg : ∀ args w, (callFunc g args).run Tryz.prog w = .ok (.enter g args) w) (b off n c : Nat) (zs : List Int) (w : World)
    (hp : ∀ W, Below w.heap.size w W → ∀ x ∈ zs, Calls Tryz.prog g (#[.int .i64 x] ++ lb) W fun e w' => e = .returned (.bool (p x)) ∧ Below w.heap.size w w') (hz : zs.length = n) (hbig : n ≤ 9223372036854775807) (hb : b < w.heap.size)
    (hc : ∀ j, j < zs.length → w.cell? ⟨b, off + j, none⟩ = some (.int .i64 zs[j]!)) :
    Calls Tryz.prog 117 #[.slice (some ⟨b, off, none⟩) n c, .func (.func g) #[] lb] w fun e w' => e = .returned (.int .i64 (place p zs)) ∧ Below w.heap.size w w' := by
  have hrow : ∀ (W : World), Below w.heap.size w W → ∀ j, j < zs.length → W.cell? ⟨b, off + j, none⟩ = some (.int .i64 zs[j]!) := fun W hW j hj => (hW.cell (p := ⟨b, off + j, none⟩) hb).trans (hc j hj)
  clear hc
  go_enter Tryz.func117, Tryz.ntmps117
  go_wp2
  go_loopg [5, 8] n (fun gg _ s8 wr => ∃ kk : Nat, kk ≤ n ∧ n - kk ≤ gg ∧ s8 = .int .i64 kk ∧ Aside (Below w.heap.size w wr) ∧ Aside (∀ j, j < kk → p zs[j]! = false))
  case atStart => exact ⟨0, Nat.zero_le _, by omega, rfl, Below.refl _ w, fun j hj => absurd hj (Nat.not_lt_zero _)⟩
  case round =>
    obtain ⟨kk, hkk, hg, rfl, BW, A⟩ := hrel
    by_cases hlt : kk < n
    · have hltz : (kk : Int) < (n : Int) := by omega
      have l2 := hrow wr BW.out kk (by omega)
      have hcall := hp wr BW.out zs[kk]! (mem_get! (by omega))
      clear hrow hp
      generalize hy : zs[kk]! = y at l2 hcall
      have B : Aside (zs[kk]! = y) := hy
      clear hy
      cases hq : p y with
      | true =>
        rw [hq] at hcall
        go_wp2_with (go_at_fn g; refine hcall.mono ?_; rintro e w' ⟨rfl, hb'⟩)
        go_ret
        refine ⟨?_, hb'⟩
        rw [place_hit p zs kk (by omega) (by rw [B.out]; exact hq) A.out]
        rfl
      | false =>
        rw [hq] at hcall
        go_wp2_with (go_at_fn g; refine hcall.mono ?_; rintro e w' ⟨rfl, hb'⟩)
        go_roundg (n - (kk + 1))
        case measure => omega
        case rel =>
          refine ⟨kk + 1, by omega, by omega, by go_num, hb', (show Aside _ from fun j hj => ?_)⟩
          by_cases e : j = kk
          · subst e
            rw [B.out]; exact hq
          · exact A.out j (by omega)
    · have hltz : ¬ (kk : Int) < (n : Int) := by omega
      have : kk = n := by omega
      subst this
      go_wp2
      go_ret
      refine ⟨?_, BW.out⟩
      rw [place_miss p zs (fun j hj => A.out j (by omega))]
      rfl

set_option maxHeartbeats 1000000 in
theorem idxI_empty (a : Option Addr) (c : Nat) (fv : Value) (w : World) :
    Calls Tryz.prog 117 #[.slice a 0 c, fv] w fun e w' => e = .returned (.int .i64 (-1)) ∧ w' = w := by
  go_enter Tryz.func117, Tryz.ntmps117
  go_wp2
  go_loopg [5, 8] 0 (fun _ _ s8 wr => s8 = .int .i64 0 ∧ wr = w)
  case atStart => exact ⟨rfl, rfl⟩
  case round =>
    obtain ⟨rfl, rfl⟩ := hrel
    go_wp2
    go_ret
    exact ⟨rfl, rfl⟩

theorem idxI_any (v : Value) (S : List Nat) (l : List Int) (p : Int → Bool) (g : Nat) (lb : Array Value) (eg : ∀ args w, (callFunc g args).run Tryz.prog w = .ok (.enter g args) w) (w : World) (hr : RdS w S 1 v l.length (l.map encI)) (hn : l.length ≤ 1099511627776)
    (hp : ∀ W, Below w.heap.size w W → ∀ x ∈ l, Calls Tryz.prog g (#[.int .i64 x] ++ lb) W fun e w' => e = .returned (.bool (p x)) ∧ Below w.heap.size w w') :
    Calls Tryz.prog 117 #[v, .func (.func g) #[] lb] w fun e w' => e = .returned (.int .i64 (place p l)) ∧ Below w.heap.size w w' := by
  rcases Nat.eq_zero_or_pos l.length with h0 | hpos
  · obtain rfl : l = [] := List.eq_nil_of_length_eq_zero h0
    obtain ⟨A, cap, rfl, _, _⟩ := hr.form
    refine (idxI_empty A cap _ w).mono ?_
    rintro e w' ⟨rfl, rfl⟩
    exact ⟨rfl, Below.refl _ _⟩
  · obtain ⟨b, off, cap, rfl, _, _, hlt, _, hat⟩ := hr.at_ hpos
    exact idxI_own p g lb eg b off l.length cap l w hp rfl (by omega) hlt (fun j hj => by
      rw [hat j (by omega), getElem!_pos l j hj]
      simp [hj])
theorem hasI_any (v : Value) (S : List Nat) (l : List Int) (p : Int → Bool) (g : Nat) (lb : Array Value) (eg : ∀ args w, (callFunc g args).run Tryz.prog w = .ok (.enter g args) w) (w : World) (hr : RdS w S 1 v l.length (l.map encI)) (hn : l.length ≤ 1099511627776)
    (hp : ∀ W, Below w.heap.size w W → ∀ x ∈ l, Calls Tryz.prog g (#[.int .i64 x] ++ lb) W fun e w' => e = .returned (.bool (p x)) ∧ Below w.heap.size w w') :
    Calls Tryz.prog 54 #[v, .func (.func g) #[] lb] w fun e w' => e = .returned (.bool (l.any p)) ∧ Below w.heap.size w w' := by
  have hi := idxI_any v S l p g lb eg w hr hn hp
  rw [any_place]
  generalize place p l = r at hi
  clear hp hr hn eg
  go_enter Tryz.func54, Tryz.ntmps54
  go_wp2_with (go_at_call 117; refine hi.mono ?_; rintro e w' ⟨rfl, hb'⟩)
  go_ret
  exact ⟨rfl, hb'⟩

set_option maxHeartbeats 2000000 in
theorem idxJ_own (p : Int → Bool) (g : Nat) (r : Value) (eg : ∀ args w, (callFunc g args).run Tryz.prog w = .ok (.enter g args) w) (b off n c : Nat) (zs : List Int) (w : World)
    (hp : ∀ W, Below w.heap.size w W → ∀ x ∈ zs, Calls Tryz.prog g #[r, .int .i64 x] W fun e w' => e = .returned (.bool (p x)) ∧ Below w.heap.size w w') (hz : zs.length = n) (hbig : n ≤ 9223372036854775807) (hb : b < w.heap.size)
    (hc : ∀ j, j < zs.length → w.cell? ⟨b, off + j, none⟩ = some (.int .i64 zs[j]!)) :
    Calls Tryz.prog 117 #[.slice (some ⟨b, off, none⟩) n c, .func (.func g) #[r] #[]] w fun e w' => e = .returned (.int .i64 (place p zs)) ∧ Below w.heap.size w w' := by
  have hrow : ∀ (W : World), Below w.heap.size w W → ∀ j, j < zs.length → W.cell? ⟨b, off + j, none⟩ = some (.int .i64 zs[j]!) := fun W hW j hj => (hW.cell (p := ⟨b, off + j, none⟩) hb).trans (hc j hj)
  clear hc
  go_enter Tryz.func117, Tryz.ntmps117
  go_wp2
  go_loopg [5, 8] n (fun gg _ s8 wr => ∃ kk : Nat, kk ≤ n ∧ n - kk ≤ gg ∧ s8 = .int .i64 kk ∧ Aside (Below w.heap.size w wr) ∧ Aside (∀ j, j < kk → p zs[j]! = false))
  case atStart => exact ⟨0, Nat.zero_le _, by omega, rfl, Below.refl _ w, fun j hj => absurd hj (Nat.not_lt_zero _)⟩
  case round =>
    obtain ⟨kk, hkk, hg, rfl, BW, A⟩ := hrel
    by_cases hlt : kk < n
    · have hltz : (kk : Int) < (n : Int) := by omega
      have l2 := hrow wr BW.out kk (by omega)
      have hcall := hp wr BW.out zs[kk]! (mem_get! (by omega))
      clear hrow hp
      generalize hy : zs[kk]! = y at l2 hcall
      have B : Aside (zs[kk]! = y) := hy
      clear hy
      cases hq : p y with
      | true =>
        rw [hq] at hcall
        go_wp2_with (go_at_fn g; refine hcall.mono ?_; rintro e w' ⟨rfl, hb'⟩)
        go_ret
        refine ⟨?_, hb'⟩
        rw [place_hit p zs kk (by omega) (by rw [B.out]; exact hq) A.out]
        rfl
      | false =>
        rw [hq] at hcall
        go_wp2_with (go_at_fn g; refine hcall.mono ?_; rintro e w' ⟨rfl, hb'⟩)
        go_roundg (n - (kk + 1))
        case measure => omega
        case rel =>
          refine ⟨kk + 1, by omega, by omega, by go_num, hb', (show Aside _ from fun j hj => ?_)⟩
          by_cases e : j = kk
          · subst e
            rw [B.out]; exact hq
          · exact A.out j (by omega)
    · have hltz : ¬ (kk : Int) < (n : Int) := by omega
      have : kk = n := by omega
      subst this
      go_wp2
      go_ret
      refine ⟨?_, BW.out⟩
      rw [place_miss p zs (fun j hj => A.out j (by omega))]
      rfl

theorem idxJ_any (v : Value) (S : List Nat) (l : List Int) (p : Int → Bool) (g : Nat) (r : Value) (eg : ∀ args w, (callFunc g args).run Tryz.prog w = .ok (.enter g args) w) (w : World) (hr : RdS w S 1 v l.length (l.map encI)) (hn : l.length ≤ 1099511627776)
    (hp : ∀ W, Below w.heap.size w W → ∀ x ∈ l, Calls Tryz.prog g #[r, .int .i64 x] W fun e w' => e = .returned (.bool (p x)) ∧ Below w.heap.size w w') :
    Calls Tryz.prog 117 #[v, .func (.func g) #[r] #[]] w fun e w' => e = .returned (.int .i64 (place p l)) ∧ Below w.heap.size w w' := by
  rcases Nat.eq_zero_or_pos l.length with h0 | hpos
  · obtain rfl : l = [] := List.eq_nil_of_length_eq_zero h0
    obtain ⟨A, cap, rfl, _, _⟩ := hr.form
    refine (idxI_empty A cap _ w).mono ?_
    rintro e w' ⟨rfl, rfl⟩
    exact ⟨rfl, Below.refl _ _⟩
  · obtain ⟨b, off, cap, rfl, _, _, hlt, _, hat⟩ := hr.at_ hpos
    exact idxJ_own p g r eg b off l.length cap l w hp rfl (by omega) hlt (fun j hj => by
      rw [hat j (by omega), getElem!_pos l j hj]
      simp [hj])
theorem hasJ_any (v : Value) (S : List Nat) (l : List Int) (p : Int → Bool) (g : Nat) (r : Value) (eg : ∀ args w, (callFunc g args).run Tryz.prog w = .ok (.enter g args) w) (w : World) (hr : RdS w S 1 v l.length (l.map encI)) (hn : l.length ≤ 1099511627776)
    (hp : ∀ W, Below w.heap.size w W → ∀ x ∈ l, Calls Tryz.prog g #[r, .int .i64 x] W fun e w' => e = .returned (.bool (p x)) ∧ Below w.heap.size w w') :
    Calls Tryz.prog 54 #[v, .func (.func g) #[r] #[]] w fun e w' => e = .returned (.bool (l.any p)) ∧ Below w.heap.size w w' := by
  have hi := idxJ_any v S l p g r eg w hr hn hp
  rw [any_place]
  generalize place p l = r at hi
  clear hp hr hn eg
  go_enter Tryz.func54, Tryz.ntmps54
  go_wp2_with (go_at_call 117; refine hi.mono ?_; rintro e w' ⟨rfl, hb'⟩)
  go_ret
  exact ⟨rfl, hb'⟩

end Go.Proofs.YtmbibhphpjmboaaGreatDoor
