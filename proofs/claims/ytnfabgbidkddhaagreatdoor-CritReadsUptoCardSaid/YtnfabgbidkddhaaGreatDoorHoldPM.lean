/-
  Which emails a filter holds of (keywords, days, and what is made of them), plain; the walks of slices.IndexFunc, ContainsFunc over ints and of slices.Contains over texts.
-/
import Derived.Test.YtnfabgbidkddhaaGreatDoorHoldRightM
import Derived.Test.YtnfabgbidkddhaaGreatDoorGCF
namespace Go.Proofs.YtnfabgbidkddhaaGreatDoor
open Go.RowKit
attribute [local go_sem ↓] Go.wp_at_zero Go.wp_at_succ

/-- An email: its second, its clock, its octets, its keywords, its places. -/
structure Em where
  sec : Int
  mod : Int
  text : List UInt8
  keys : List ByteArray
  mem : List Rg
def keysV (l : List ByteArray) : List Value := l.map Value.string

def holdsP (e : Em) (f : Out) : Nat → Nat → Bool
  | 0, _ => false
  | n + 1, i => match f[i]? with
    | none => false
    | some t =>
      if t.kind = 1 then t.kids.all fun k => holdsP e f n k.toNat
      else if t.kind = 2 then t.kids.any fun k => holdsP e f n k.toNat
      else if t.kind = 3 then !(t.kids.any fun k => holdsP e f n k.toNat)
      else if t.kind = 4 then e.mem.any fun m => (m.1 == t.n) != false
      else if t.kind = 5 then e.mem.any fun m => (m.1 == t.n) != true
      else if t.kind = 6 then e.keys.any fun k => k == t.text
      else if t.kind = 7 then decide (e.sec < t.n)
      else if t.kind = 8 then decide (t.n ≤ e.sec)
      else if t.kind = 9 then decide (t.n ≤ (e.text.length : Nat))
      else if t.kind = 10 then decide (((e.text.length : Nat) : Int) < t.n)
      else if t.kind = 14 then e.mem.any fun m => m.1 == t.n && inL t.set m.2
      else if t.kind = 15 then decide (t.n ≤ e.mod)
      else false
/-- Terms of the kinds that are known here; kids below. -/
def goodT (i : Nat) (t : Tm) : Bool := (t.kind == 1 || t.kind == 2 || t.kind == 3 || t.kind == 4 || t.kind == 5 || t.kind == 6 || t.kind == 7 || t.kind == 8 || t.kind == 9 || t.kind == 10 || t.kind == 14 || t.kind == 15) && t.kids.all fun k => decide (0 ≤ k) && decide (k < i)
def goodF (f : Out) : Bool := (List.range f.length).all fun i => match f[i]? with
  | none => false
  | some t => goodT i t
theorem goodF_at {f : Out} (h : goodF f = true) (i : Nat) (hi : i < f.length) : goodT i f[i] = true := by
  unfold goodF at h
  have h1 := List.all_eq_true.1 h i (List.mem_range.2 hi)
  rw [List.getElem?_eq_getElem hi] at h1
  exact h1

/-- Whether there is one so far. -/
theorem any_take {α : Type} (l : List α) (p : α → Bool) (k : Nat) (hk : k < l.length) (h0 : (l.take k).any p = false) : (l.take (k + 1)).any p = p l[k] := by
  rw [List.take_succ_eq_append_getElem hk, List.any_append, h0]
  simp
/-- What an index hands back: it is there where one is. -/
def IxOut (w : World) (b : Bool) (e : Ending) (w' : World) : Prop := ∃ r : Int, e = .returned (.int .i64 r) ∧ decide (0 ≤ r) = b ∧ Below w.heap.size w w'

set_option maxRecDepth 100000 in
set_option maxHeartbeats 2000000 in
theorem idxI_any (w : World) (v : Value) (l : List Int) (hr : RdS w [] 1 v l.length (intC l)) (q : FuncId) (caps : Array Value) (p : Int → Bool) (heg : ∀ args W, (callFunc q args).run Tryz.prog W = .ok (.enter q args) W)
    (hp : ∀ x ∈ l, ∀ W, Below w.heap.size w W → Calls Tryz.prog q (#[.int .i64 x] ++ caps) W fun e W' => e = .returned (.bool (p x)) ∧ Below W.heap.size W W') :
    Calls Tryz.prog 54 #[v, .func (.func q) #[] caps] w (IxOut w (l.any p)) := by
  obtain ⟨ans, hans⟩ : ∃ ans, l.any p = ans := ⟨_, rfl⟩
  rw [hans]
  obtain ⟨n, hn⟩ : ∃ n, l.length = n := ⟨_, rfl⟩
  rw [hn] at hr
  obtain ⟨A, cap, rfl, _, hcap⟩ := hr.form
  have hmb : n ≤ 9223372036854775807 := by
    unfold maxLen at hcap
    omega
  have HR := Lib.hid hr
  have HN := Lib.hid hn
  have HP := Lib.hid hp
  have HANS := Lib.hid hans
  clear hr hn hp hans
  go_enter Tryz.func54, Tryz.ntmps54
  go_wp2
  go_loopw [8] (fun i wr => ∃ k : Nat, k ≤ n ∧ i = .int .i64 k ∧ Hid ((l.take k).any p = false) ∧ Hid (Below w.heap.size w wr)) (fun i _ => n - (intOf i).toNat)
  case atStart => exact ⟨0, Nat.zero_le _, rfl, Lib.hid rfl, Lib.hid (Below.refl _ _)⟩
  case round =>
    obtain ⟨k, hk, rfl, HA, HB⟩ := hrel
    by_cases hlt : k < n
    · have hke : k < l.length := by rw [HN.out]; exact hlt
      obtain ⟨b, off, cap2, hva, _, _, hbl, _, hat⟩ := HR.out.at_ (by omega)
      injection hva with hva1 hva2 hva3
      subst hva1
      clear hva2 hva3
      have hc := hat k (by omega)
      have hg : (intC l)[k]? = some (.int .i64 l[k]) := by simp [intC, hke]
      rw [hg] at hc
      have d0 : wr.cell? ⟨b, off + k, none⟩ = some (.int .i64 l[k]) := (HB.out.cell (p := ⟨b, off + k, none⟩) hbl).trans hc
      have hcall := HP.out l[k] (List.getElem_mem hke) wr HB.out
      have hst := any_take l p k hke HA.out
      obtain ⟨x, hx⟩ : ∃ x, l[k] = x := ⟨_, rfl⟩
      rw [hx] at d0 hcall hst
      obtain ⟨px, hpx⟩ : ∃ px, p x = px := ⟨_, rfl⟩
      rw [hpx] at hcall hst
      have HST := Lib.hid hst
      clear hat hg hc hst hx hpx
      cases px with
      | true =>
        have ht : ans = true := by
          rw [← HANS.out, List.any_eq_true]
          obtain ⟨y, h1, h2⟩ := List.any_eq_true.1 HST.out
          exact ⟨y, List.mem_of_mem_take h1, h2⟩
        subst ht
        go_wp2_with (first
          | (refine hcall.mono ?_; rintro e w2 ⟨rfl, hb2⟩; have HB2 := Lib.hid (below_then HB.out hb2); clear hb2 hcall)
          | fail)
        go_ret
        exact ⟨_, rfl, by simp, HB2.out⟩
      | false =>
        go_wp2_with (first
          | (refine hcall.mono ?_; rintro e w2 ⟨rfl, hb2⟩; have HB2 := Lib.hid (below_then HB.out hb2); clear hb2 hcall)
          | fail)
        refine ⟨?_, by simp [intOf]; omega⟩
        first | exact ⟨k + 1, by omega, by go_num, HST, HB2⟩ | ((repeat apply Exists.intro); exact ⟨⟨k + 1, by omega, by go_num, HST, HB2⟩, rfl⟩)
    · have hkn : k = n := by omega
      subst hkn
      have hf : ans = false := by
        rw [← HANS.out]
        have h1 := HA.out
        rw [List.take_of_length_le (by rw [HN.out]; exact Nat.le_refl _)] at h1
        exact h1
      subst hf
      go_wp2
      go_ret
      exact ⟨_, rfl, by decide, HB.out⟩

set_option maxRecDepth 100000 in
theorem hasI_any (w : World) (v : Value) (l : List Int) (hr : RdS w [] 1 v l.length (intC l)) (q : FuncId) (caps : Array Value) (p : Int → Bool) (heg : ∀ args W, (callFunc q args).run Tryz.prog W = .ok (.enter q args) W)
    (hp : ∀ x ∈ l, ∀ W, Below w.heap.size w W → Calls Tryz.prog q (#[.int .i64 x] ++ caps) W fun e W' => e = .returned (.bool (p x)) ∧ Below W.heap.size W W') :
    Calls Tryz.prog 32 #[v, .func (.func q) #[] caps] w fun e w' => e = .returned (.bool (l.any p)) ∧ Below w.heap.size w w' := by
  have hi := idxI_any w v l hr q caps p heg hp
  obtain ⟨A, cap, rfl, _, hcap⟩ := hr.form
  generalize l.length = n at *
  clear hr hp heg
  go_enter Tryz.func32, Tryz.ntmps32
  go_wp2_with (first
    | (go_at_call 54; refine hi.mono ?_; rintro e w2 ⟨r, rfl, hb, hb2⟩; have HB := Lib.hid hb; have HB2 := Lib.hid hb2; clear hb hb2 hi)
    | fail)
  go_ret
  exact ⟨ret_bool HB.out, HB2.out⟩

set_option maxRecDepth 100000 in
set_option maxHeartbeats 2000000 in
theorem idxT_any (w : World) (v : Value) (l : List ByteArray) (hr : RdS w [] 1 v l.length (keysV l)) (t : ByteArray) :
    Calls Tryz.prog 57 #[v, .string t] w (IxOut w (l.any fun k => k == t)) := by
  obtain ⟨ans, hans⟩ : ∃ ans, (l.any fun k => k == t) = ans := ⟨_, rfl⟩
  rw [hans]
  obtain ⟨n, hn⟩ : ∃ n, l.length = n := ⟨_, rfl⟩
  rw [hn] at hr
  obtain ⟨A, cap, rfl, _, hcap⟩ := hr.form
  have hmb : n ≤ 9223372036854775807 := by
    unfold maxLen at hcap
    omega
  have HR := Lib.hid hr
  have HN := Lib.hid hn
  have HANS := Lib.hid hans
  clear hr hn hans
  go_enter Tryz.func57, Tryz.ntmps57
  go_wp2
  go_loop [8] (fun i => ∃ k : Nat, k ≤ n ∧ i = .int .i64 k ∧ Hid ((l.take k).any (fun k => k == t) = false)) (fun i => n - (intOf i).toNat)
  case atStart => exact ⟨0, Nat.zero_le _, rfl, Lib.hid rfl⟩
  case round =>
    obtain ⟨k, hk, rfl, HA⟩ := hrel
    by_cases hlt : k < n
    · have hke : k < l.length := by rw [HN.out]; exact hlt
      obtain ⟨b, off, cap2, hva, _, _, hbl, _, hat⟩ := HR.out.at_ (by omega)
      injection hva with hva1 hva2 hva3
      subst hva1
      clear hva2 hva3
      have hc := hat k (by omega)
      have hg : (keysV l)[k]? = some (.string l[k]) := by simp [keysV, hke]
      rw [hg] at hc
      have hst := any_take l (fun k => k == t) k hke HA.out
      obtain ⟨x, hx⟩ : ∃ x, l[k] = x := ⟨_, rfl⟩
      rw [hx] at hc hst
      clear hat hg hx
      by_cases hxt : x = t
      · have hb1 : (t.toList == x.toList) = true := by rw [hxt]; simp
        have hst : (l.take (k + 1)).any (fun k => k == t) = true := by rw [hst, hxt]; simp
        have ht : ans = true := by
          rw [← HANS.out, List.any_eq_true]
          obtain ⟨y, h1, h2⟩ := List.any_eq_true.1 hst
          exact ⟨y, List.mem_of_mem_take h1, h2⟩
        subst ht
        clear hst hxt
        go_wp2
        go_ret
        exact ⟨_, rfl, by simp, Below.refl _ _⟩
      · have hb1 : (t.toList == x.toList) = false := by
          rw [toList_beqB, beq_eq_false_iff_ne]
          intro h
          apply hxt
          have h1 := of_dataL x _ h.symm
          rw [h1]
        have hst : (l.take (k + 1)).any (fun k => k == t) = false := by rw [hst]; simpa using hxt
        have HST := Lib.hid hst
        clear hst hxt
        go_wp2
        go_round
        case rel => exact ⟨k + 1, by omega, by go_num, HST⟩
        case measure => simp [intOf]; omega
    · have hkn : k = n := by omega
      subst hkn
      have hf : ans = false := by
        rw [← HANS.out]
        have h1 := HA.out
        rw [List.take_of_length_le (by rw [HN.out]; exact Nat.le_refl _)] at h1
        exact h1
      subst hf
      go_wp2
      go_ret
      exact ⟨_, rfl, by decide, Below.refl _ _⟩

set_option maxRecDepth 100000 in
theorem hasT_any (w : World) (v : Value) (l : List ByteArray) (hr : RdS w [] 1 v l.length (keysV l)) (t : ByteArray) :
    Calls Tryz.prog 35 #[v, .string t] w fun e w' => e = .returned (.bool (l.any fun k => k == t)) ∧ Below w.heap.size w w' := by
  have hi := idxT_any w v l hr t
  obtain ⟨A, cap, rfl, _, hcap⟩ := hr.form
  generalize l.length = n at *
  clear hr
  go_enter Tryz.func35, Tryz.ntmps35
  go_wp2_with (first
    | (go_at_call 57; refine hi.mono ?_; rintro e w2 ⟨r, rfl, hb, hb2⟩; have HB := Lib.hid hb; have HB2 := Lib.hid hb2; clear hb hb2 hi)
    | fail)
  go_ret
  exact ⟨ret_bool HB.out, HB2.out⟩

end Go.Proofs.YtnfabgbidkddhaaGreatDoor
