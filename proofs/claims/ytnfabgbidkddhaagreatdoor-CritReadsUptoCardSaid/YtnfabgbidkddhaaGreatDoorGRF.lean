/-
  The recursion of crit's reader: not, or, list, whole, key, by the number of words that are left.
  The walks of crit's whole and list, of so many words.
  The walk of crit's list, and what a key told asks.
  The walk of crit's key.
  The walk of crit.Read.
-/
import Derived.Test.YtnfabgbidkddhaaGreatDoorCritPlacesM
import Derived.Test.YtnfabgbidkddhaaGreatDoorCritKeysWM
namespace Go.Proofs.YtnfabgbidkddhaaGreatDoor
open Go.RowKit
attribute [local go_sem ↓] Go.wp_at_zero Go.wp_at_succ

section
variable {w0 w w' : World} {g ob mb : Nat} {uv : Value} {E : CEnv} {ws : List WT} {out : Out} {mod : Bool} {h : Hn}

/-- What not does behind a key. -/
theorem KOut.not {bound sz : Nat} {res : Res} {k : Int} {ok : Bool} {ws' : List WT} {out' : Out} {mod' : Bool} {h'' : Hn} (hk : KSt w0 w w' g ob mb uv E h ws' (out' ++ [tmK 3 [k]]) mod' h'')
    (hres : res = (if ok = true then some (k, ws', out', mod') else none)) (hb : out'.length + 3 * szL ws' ≤ bound) (hs : szL ws' + (if ok = true then 1 else 0) ≤ sz) :
    KOut w0 w g ob mb uv E h (bound + 1) sz (notP res) (.returned (.tuple #[.int .i64 (out'.length : Nat), .bool ok])) w' := by
  refine ⟨_, ok, _, _, _, _, rfl, hk, ?_, ?_, hs⟩
  · rw [hres]
    cases ok <;> simp [notP, putP]
  · simp only [List.length_append, List.length_cons, List.length_nil]
    omega

set_option maxRecDepth 100000 in
set_option maxHeartbeats 4000000 in
theorem notKeyword_anyK {b : Nat} (hB : Blk w b 98 #[.func (.func 67) #[] #[]]) {bound sz : Nat} {res : Res} (hbd : bound ≤ 1000000000000)
    (hc : Calls Tryz.prog 67 #[.pointer (some ⟨g, 0, none⟩)] w (KOut w0 w g ob mb uv E h bound sz res)) :
    Calls Tryz.prog 107 #[.pointer (some ⟨g, 0, none⟩), .pointer (some ⟨b, 0, none⟩)] w (KOut w0 w g ob mb uv E h (bound + 1) sz (notP res)) := by
  have hcb : w.cell? ⟨b, 0, none⟩ = some (.func (.func 67) #[] #[]) := hB.cell 0
  clear hB
  go_enter Tryz.func107, Tryz.ntmps107
  go_wp2_with (first
    | (go_at_call 67; refine hc.mono ?_; rintro e w2 ⟨k, ok, ws', out', mod', h', rfl, hk, hres, hb, hsz⟩; have HK := Lib.hid hk; have HRES := Lib.hid hres; have HBD := Lib.hid hb; have HSZ := Lib.hid hsz; clear hk hres hb hsz hc)
    | (go_at_call 27; refine (over_anyC (HK.out.below ((Below.refl _ _).alloc (Nat.le_refl _) _)) 3 [k] _ _ (Sl.lit _ _ [.int .i64 k] 1 rfl (by decide)) (by rintro b ⟨rfl⟩; exact HK.out.chg.size) (by have := HBD.out; omega)).mono ?_; rintro e w5 ⟨h5, rfl, hk5⟩; have HK5 := Lib.hid hk5; clear hk5)
    | fail)
  go_ret2
  exact KOut.not HK5.out HRES.out HBD.out HSZ.out

set_option maxRecDepth 100000 in
set_option maxHeartbeats 4000000 in
theorem notHas_anyK {b : Nat} {b2 : Nat} (hB : Blk w b 98 #[.func (.func 114) #[] #[.pointer (some ⟨b2, 0, none⟩)]]) {bound sz : Nat} {res : Res} (hbd : bound ≤ 1000000000000)
    (hc : Calls Tryz.prog 114 #[.pointer (some ⟨g, 0, none⟩), .pointer (some ⟨b2, 0, none⟩)] w (KOut w0 w g ob mb uv E h bound sz res)) :
    Calls Tryz.prog 107 #[.pointer (some ⟨g, 0, none⟩), .pointer (some ⟨b, 0, none⟩)] w (KOut w0 w g ob mb uv E h (bound + 1) sz (notP res)) := by
  have hcb : w.cell? ⟨b, 0, none⟩ = some (.func (.func 114) #[] #[.pointer (some ⟨b2, 0, none⟩)]) := hB.cell 0
  clear hB
  go_enter Tryz.func107, Tryz.ntmps107
  go_wp2_with (first
    | (go_at_call 114; refine hc.mono ?_; rintro e w2 ⟨k, ok, ws', out', mod', h', rfl, hk, hres, hb, hsz⟩; have HK := Lib.hid hk; have HRES := Lib.hid hres; have HBD := Lib.hid hb; have HSZ := Lib.hid hsz; clear hk hres hb hsz hc)
    | (go_at_call 27; refine (over_anyC (HK.out.below ((Below.refl _ _).alloc (Nat.le_refl _) _)) 3 [k] _ _ (Sl.lit _ _ [.int .i64 k] 1 rfl (by decide)) (by rintro b ⟨rfl⟩; exact HK.out.chg.size) (by have := HBD.out; omega)).mono ?_; rintro e w5 ⟨h5, rfl, hk5⟩; have HK5 := Lib.hid hk5; clear hk5)
    | fail)
  go_ret2
  exact KOut.not HK5.out HRES.out HBD.out HSZ.out

set_option maxRecDepth 100000 in
set_option maxHeartbeats 4000000 in
theorem notKey_anyK {b : Nat} (hB : Blk w b 98 #[.func (.func 26) #[] #[]]) {bound sz : Nat} {res : Res} (hbd : bound ≤ 1000000000000)
    (hc : Calls Tryz.prog 26 #[.pointer (some ⟨g, 0, none⟩)] w (KOut w0 w g ob mb uv E h bound sz res)) :
    Calls Tryz.prog 107 #[.pointer (some ⟨g, 0, none⟩), .pointer (some ⟨b, 0, none⟩)] w (KOut w0 w g ob mb uv E h (bound + 1) sz (notP res)) := by
  have hcb : w.cell? ⟨b, 0, none⟩ = some (.func (.func 26) #[] #[]) := hB.cell 0
  clear hB
  go_enter Tryz.func107, Tryz.ntmps107
  go_wp2_with (first
    | (go_at_call 26; refine hc.mono ?_; rintro e w2 ⟨k, ok, ws', out', mod', h', rfl, hk, hres, hb, hsz⟩; have HK := Lib.hid hk; have HRES := Lib.hid hres; have HBD := Lib.hid hb; have HSZ := Lib.hid hsz; clear hk hres hb hsz hc)
    | (go_at_call 27; refine (over_anyC (HK.out.below ((Below.refl _ _).alloc (Nat.le_refl _) _)) 3 [k] _ _ (Sl.lit _ _ [.int .i64 k] 1 rfl (by decide)) (by rintro b ⟨rfl⟩; exact HK.out.chg.size) (by have := HBD.out; omega)).mono ?_; rintro e w5 ⟨h5, rfl, hk5⟩; have HK5 := Lib.hid hk5; clear hk5)
    | fail)
  go_ret2
  exact KOut.not HK5.out HRES.out HBD.out HSZ.out

end

/-- What is read is one. -/
theorem RdS.uniq {w : World} {S : List Nat} {size n n' : Nat} {v : Value} {xs xs' : List Value} (h : RdS w S size v n xs) (h' : RdS w S size v n' xs') : n = n' ∧ xs = xs' := by
  have hn : n = n' := by
    obtain ⟨A, c, e1, _⟩ := h.form
    obtain ⟨A', c', e2, _⟩ := h'.form
    rw [e1] at e2
    injection e2
  subst hn
  refine ⟨rfl, ?_⟩
  rcases Nat.eq_zero_or_pos n with h0 | h0
  · have l1 := h.1
    have l2 := h'.1
    subst h0
    rw [List.eq_nil_of_length_eq_zero (by omega : xs.length = 0), List.eq_nil_of_length_eq_zero (by omega : xs'.length = 0)]
  · obtain ⟨b, off, cap, e1, _, _, _, _, a1⟩ := h.at_ h0
    obtain ⟨b', off', cap', e2, _, _, _, _, a2⟩ := h'.at_ h0
    rw [e1] at e2
    injection e2 with e3
    injection e3 with e4
    injection e4 with e5 e6
    subst e5 e6
    apply List.ext_getElem?
    intro i
    by_cases hi : i < n * size
    · rw [← a1 i hi, ← a2 i hi]
    · rw [List.getElem?_eq_none (by rw [h.1]; omega), List.getElem?_eq_none (by rw [h'.1]; omega)]
mutual
theorem WAt.uniq {w : World} : ∀ (t t' : WT) (v : Value), WAt w t v → WAt w t' v → t.kids = t'.kids
  | .mk _ _ l, .mk _ _ l', v, h, h' => by
    unfold WAt at h h'
    obtain ⟨xs, h1, h2⟩ := h
    obtain ⟨xs', h3, h4⟩ := h'
    obtain ⟨_, rfl⟩ := h1.uniq h3
    exact CellsAt.uniq l l' xs h2 h4
theorem CellsAt.uniq {w : World} : ∀ (l l' : List WT) (xs : List Value), CellsAt w l xs → CellsAt w l' xs → l = l'
  | [], [], _, _, _ => rfl
  | [], t :: ts, xs, h, h' => by
    unfold CellsAt at h h'
    subst h
    obtain ⟨u, rest, e, _⟩ := h'
    cases e
  | t :: ts, [], xs, h, h' => by
    unfold CellsAt at h h'
    subst h'
    obtain ⟨u, rest, e, _⟩ := h
    cases e
  | t :: ts, t' :: ts', xs, h, h' => by
    unfold CellsAt at h h'
    obtain ⟨u, rest, e, h1, h2⟩ := h
    obtain ⟨u', rest', e', h1', h2'⟩ := h'
    rw [e] at e'
    simp only [List.cons.injEq, Value.int.injEq, true_and, Value.string.injEq] at e'
    obtain ⟨e1, e2, rfl, rfl⟩ := e'
    have e3 := WAt.uniq t t' u h1 h1'
    rw [CellsAt.uniq ts ts' rest h2 h2']
    cases t with
    | mk k x l =>
      cases t' with
      | mk k' x' l' =>
        simp only [WT.kind, WT.text, WT.kids] at e1 e2 e3
        rw [e1, e2, e3]
end
/-- How many words a reader has before it. -/
noncomputable def leftAt (w0 w : World) (g : Nat) : Nat := by
  classical
  exact if hx : ∃ ws wv, w.cell? ⟨g, 0, none⟩ = some wv ∧ WsAt w0 wv ws then szL hx.choose else 0
theorem leftAt_eq {w0 w : World} {g : Nat} {wv : Value} {ws : List WT} (hc : w.cell? ⟨g, 0, none⟩ = some wv) (hw : WsAt w0 wv ws) : leftAt w0 w g = szL ws := by
  unfold leftAt
  have hx : ∃ ws wv, w.cell? ⟨g, 0, none⟩ = some wv ∧ WsAt w0 wv ws := ⟨ws, wv, hc, hw⟩
  rw [dif_pos hx]
  obtain ⟨wv', h1, h2⟩ := hx.choose_spec
  rw [hc] at h1
  injection h1 with h1
  subst h1
  obtain ⟨xs, a1, a2⟩ := hw
  obtain ⟨xs', b1, b2⟩ := h2
  obtain ⟨_, rfl⟩ := a1.uniq b1
  rw [CellsAt.uniq _ _ _ a2 b2]
theorem RAt.left {w0 w : World} {g ob mb : Nat} {uv : Value} {E : CEnv} {ws : List WT} {out : Out} {mod : Bool} {h : Hn} (s : RAt w0 w g ob mb uv E ws out mod h) : leftAt w0 w g = szL ws := by
  obtain ⟨wv, hg, hw⟩ := s.rd
  exact leftAt_eq (hg.cell 0) hw

section
variable {w0 w w' : World} {g ob mb : Nat} {uv : Value} {E : CEnv} {ws : List WT} {out : Out} {mod : Bool} {h : Hn}

theorem KOut.weaken {bound bound' sz sz' : Nat} {res : Res} {e : Ending} (k : KOut w0 w g ob mb uv E h bound sz res e w') (hb : bound ≤ bound') (hs : sz ≤ sz') : KOut w0 w g ob mb uv E h bound' sz' res e w' := by
  obtain ⟨k, ok, ws', out', mod', h', h1, h2, h3, h4, h5⟩ := k
  exact ⟨k, ok, ws', out', mod', h', h1, h2, h3, by omega, by omega⟩
theorem KOut.after {w1 : World} {bound sz : Nat} {res : Res} {e : Ending} (k : KOut w0 w1 g ob mb uv E h bound sz res e w') (hb : Below w.heap.size w w1) : KOut w0 w g ob mb uv E h bound sz res e w' := by
  obtain ⟨k, ok, ws', out', mod', h', h1, h2, h3, h4, h5⟩ := k
  exact ⟨k, ok, ws', out', mod', h', h1, h2.after hb, h3, h4, h5⟩

/-- The contract of key, of so many words at most. -/
def KeyRec (E : CEnv) (N : Nat) : Prop := ∀ (w0 w : World) (g ob mb : Nat) (uv : Value) (ws : List WT) (out : Out) (mod : Bool) (h : Hn), EAt w0 uv E → RAt w0 w g ob mb uv E ws out mod h → szL ws ≤ N → out.length + 3 * szL ws ≤ 900000000000 →
  Calls Tryz.prog 26 #[.pointer (some ⟨g, 0, none⟩)] w (KOut w0 w g ob mb uv E h (out.length + 3 * szL ws) (szL ws) (keyP E N ws out mod))

theorem not_anyF (n : FuncId) (w : World) : Calls Tryz.prog 68 #[.func (.func n) #[] #[]] w fun e w' => ∃ b, e = .returned (.func (.func 107) #[] #[.pointer (some ⟨b, 0, none⟩)]) ∧ Blk w' b 98 #[.func (.func n) #[] #[]] ∧ Below w.heap.size w w' := by
  go_enter Tryz.func68, Tryz.ntmps68
  go_wp2
  go_ret
  exact ⟨_, rfl, Blk.new _ _ _, (Below.refl _ _).alloc (Nat.le_refl _) _⟩

set_option maxRecDepth 100000 in
set_option maxHeartbeats 4000000 in
theorem notM_anyK {N : Nat} (hr : KeyRec E N) (s : RAt w0 w g ob mb uv E ws out mod h) (he : EAt w0 uv E) (hN : szL ws ≤ N) (hn : out.length + 3 * szL ws ≤ 900000000000) :
    Calls Tryz.prog 73 #[.pointer (some ⟨g, 0, none⟩)] w (KOut w0 w g ob mb uv E h (out.length + 3 * szL ws + 1) (szL ws) (notP (keyP E N ws out mod))) := by
  have hnot := not_anyF 26 w
  have HS := Lib.hid s
  have HR := Lib.hid hr
  have HE := Lib.hid he
  clear s hr he
  go_enter Tryz.func73, Tryz.ntmps73
  go_wp2_with (first
    | (go_at_call 68; refine hnot.mono ?_; rintro e w2 ⟨b, rfl, hB, hb2⟩; have HB := Lib.hid hB; have HB2 := Lib.hid hb2; clear hB hb2 hnot)
    | (go_at_call 107; refine (notKey_anyK HB.out (by omega) (HR.out _ _ _ _ _ _ _ _ _ _ HE.out (HS.out.below HB2.out) hN hn)).mono ?_; intro e w3 hk0; have hk1 := hk0.after HB2.out; obtain ⟨k, ok, ws', out', mod', h', rfl, hk2⟩ := hk1; have HK := Lib.hid hk2; clear hk2 hk0)
    | fail)
  go_ret2
  exact ⟨k, ok, ws', out', mod', h', rfl, HK.out⟩

set_option maxRecDepth 100000 in
set_option maxHeartbeats 4000000 in
theorem orM_anyK {N : Nat} (hr : KeyRec E N) (s : RAt w0 w g ob mb uv E ws out mod h) (he : EAt w0 uv E) (hN : szL ws ≤ N) (hn : out.length + 3 * szL ws ≤ 900000000000) :
    Calls Tryz.prog 74 #[.pointer (some ⟨g, 0, none⟩)] w (KOut w0 w g ob mb uv E h (out.length + 3 * szL ws + 1) (szL ws) (orP (keyP E N) ws out mod)) := by
  have h1 := hr _ _ _ _ _ _ _ _ _ _ he s hN hn
  have HR := Lib.hid hr
  have HE := Lib.hid he
  clear s hr he
  go_enter Tryz.func74, Tryz.ntmps74
  go_wp2_with (first
    | (go_at_call 26; refine h1.mono ?_; rintro e w2 ⟨k, ok, ws', out', mod', h', rfl, hk, hres, hb, hsz⟩; have HK := Lib.hid hk; have HRES := Lib.hid hres; have HBD := Lib.hid hb; have HSZ := Lib.hid hsz; clear hk hres hb hsz h1; cases ok)
    | (go_at_call 26; refine (HR.out _ _ _ _ _ _ _ _ _ _ HE.out HK.out.at_ (by have := HSZ.out; omega) (by have := HBD.out; omega)).mono ?_; rintro e w3 ⟨k2, ok2, ws2, out2, mod2, h2, rfl, hk2, hres2, hb2, hsz2⟩; have HK2 := Lib.hid (HK.out.trans hk2); have HRES2 := Lib.hid hres2; have HBD2 := Lib.hid hb2; have HSZ2 := Lib.hid hsz2; clear hk2 hres2 hb2 hsz2 HK)
    | (go_at_call 27; refine (over_anyC (HK2.out.below ((Below.refl _ _).alloc (Nat.le_refl _) _)) 2 [k, k2] _ _ (Sl.lit _ _ [.int .i64 k, .int .i64 k2] 2 rfl (by decide)) (by rintro b ⟨rfl⟩; exact HK2.out.chg.size) (by have := HBD.out; have := HBD2.out; omega)).mono ?_; rintro e w5 ⟨h5, rfl, hk5⟩; have HK5 := Lib.hid hk5; clear hk5)
    | fail)
  · go_ret2
    have e1 := HRES.out
    have e2 := HBD.out
    have e3 := HSZ.out
    simp only [Bool.false_eq_true, if_false] at e1 e3
    exact ⟨_, false, _, _, _, _, rfl, HK.out, by simp [orP, e1], by omega, by simpa using e3⟩
  · go_ret2
    have e1 := HRES.out
    have e2 := HBD.out
    have e3 := HSZ.out
    have e4 := HRES2.out
    have e5 := HBD2.out
    have e6 := HSZ2.out
    simp only [if_true] at e1 e3
    refine ⟨_, ok2, _, _, _, _, rfl, HK5.out, ?_, ?_, ?_⟩
    · cases ok2
      · simp only [Bool.false_eq_true, if_false] at e4
        simp [orP, e1, e4]
      · simp only [if_true] at e4
        simp [orP, e1, e4, putP]
    · simp only [List.length_append, List.length_cons, List.length_nil]
      omega
    · omega
end

end Go.Proofs.YtnfabgbidkddhaaGreatDoor

namespace Go.Proofs.YtnfabgbidkddhaaGreatDoor
open Go.RowKit
attribute [local go_sem ↓] Go.wp_at_zero Go.wp_at_succ

theorem Tryz.infoInt : (Tryz.prog.info? 3).map (fun i => (i.zero, i.size, i.bytes)) = some (some (.int .i64 0), 1, 8) := by kernel_rfl

/-- What the loop over the keys keeps. -/
structure LSt (w0 w wr : World) (g ob mb : Nat) (uv : Value) (E : CEnv) (N : Nat) (res : Option (Int × Out × Bool)) (h : Hn) (B S : Nat) (o : Value) (kids : List Int) (hk : Option Nat) (wsj : List WT) (outj : Out) (modj : Bool) (hj : Hn) (j : Nat) : Prop where
  kst : KSt w0 w wr g ob mb uv E h wsj outj modj hj
  sl : Sl wr 3 1 o hk kids.length (intC kids)
  own : ∀ b, hk = some b → w.heap.size ≤ b ∧ ¬ hj.f b
  go : res = wholeP (keyP E N) j wsj outj modj kids
  fuel : szL wsj ≤ j ∧ j ≤ N
  bnd : outj.length + 3 * szL wsj ≤ B
  few : kids.length + szL wsj ≤ S

theorem wholeP_step (f : List WT → Out → Bool → Res) (n : Nat) (t : WT) (ts : List WT) (out : Out) (mod : Bool) (kids : List Int) : wholeP f (n + 1) (t :: ts) out mod kids = match f (t :: ts) out mod with
    | none => none
    | some (k, ws, out', mod') => wholeP f n ws out' mod' (kids ++ [k]) := by
  conv => lhs; unfold wholeP
  rfl
theorem wholeP_nil (f : List WT → Out → Bool → Res) (n : Nat) (out : Out) (mod : Bool) (kids : List Int) : wholeP f n [] out mod kids = if kids = [] then none else some ((out.length : Int), out ++ [tmK 1 kids], mod) := by
  cases n <;> unfold wholeP <;> rfl
theorem szW_pos : ∀ (t : WT), 0 < szW t
  | .mk _ _ l => by unfold szW; omega
theorem intC_snoc (l : List Int) (k : Int) : intC (l ++ [k]) = intC l ++ [.int .i64 k] := by simp [intC]

section
variable {w0 w wr w3 w4 : World} {g ob mb : Nat} {uv : Value} {E : CEnv} {N : Nat} {res : Option (Int × Out × Bool)} {h : Hn} {B S : Nat} {o : Value} {kids : List Int} {hk : Option Nat} {wsj : List WT} {outj : Out} {modj : Bool} {hj : Hn} {j : Nat}

theorem LSt.bad {t : WT} {ts : List WT} (p : LSt w0 w wr g ob mb uv E N res h B S o kids hk (t :: ts) outj modj hj j) (hn : keyP E N (t :: ts) outj modj = none) : res = none := by
  have h1 := p.go
  have h2 := p.fuel.1
  have h3 := szW_pos t
  simp only [szL] at h2
  cases j with
  | zero => omega
  | succ j =>
    rw [h1, wholeP_step, hn]
theorem LSt.push {t : WT} {ts : List WT} (p : LSt w0 w wr g ob mb uv E N res h B S o kids hk (t :: ts) outj modj hj j) {k : Int} {ws' : List WT} {out' : Out} {mod' : Bool} {h' : Hn}
    (kk : KSt w0 wr w3 g ob mb uv E hj ws' out' mod' h') (hres : keyP E N (t :: ts) outj modj = some (k, ws', out', mod')) (hb : out'.length + 3 * szL ws' ≤ outj.length + 3 * szL (t :: ts)) (hs : szL ws' + 1 ≤ szL (t :: ts))
    {v' : Value} {hk' : Option Nat} (hsl : Sl w4 3 1 v' hk' (kids.length + 1) (intC kids ++ [.int .i64 k])) (hc : Chg hk.toList w3 w4) (ho : hk' = hk ∨ ∃ b, hk' = some b ∧ w3.heap.size ≤ b) (hlow : w0.heap.size ≤ w.heap.size) :
    LSt w0 w w4 g ob mb uv E N res h B S v' (kids ++ [k]) hk' ws' out' mod' h' (j - 1) := by
  have h2 := p.fuel.1
  have h3 := szW_pos t
  have hst := p.kst.trans kk
  -- the numbers' block is none of the reader's
  have hsl3 := kk.ints p.kst.at_ p.sl
  have hnf : ∀ b, hk = some b → ¬ h'.f b := fun b hb hf => by
    rcases kk.fnew b hf with h1 | h1
    · exact (p.own b hb).2 h1
    · have := p.sl.lt b hb
      omega
  have hblk : ∀ b, hk = some b → ∃ cur, Blk w3 b 3 cur := fun b hb => hsl3.blkOf b hb
  have hkeep : SKeep h'.f w3 w4 := by
    intro b e cs hB he
    refine hc.block b hB.lt fun hm => ?_
    have hm : hk = some b := by simpa using hm
    rcases he with he | he
    · obtain ⟨cur, hB2⟩ := hblk b hm
      have := (hB.inj hB2).1
      rw [he] at this
      exact absurd this (by decide)
    · exact hnf b hm he.2
  have hap : ∀ k ∈ g :: ob :: mb :: h'.b.toList, k ∉ hk.toList := by
    intro k hk1 hk2
    have hk2 : hk = some k := by simpa using hk2
    obtain ⟨e, cs, hB, _, h5⟩ := hst.at_.own k hk1
    obtain ⟨cur, hB2⟩ := hblk k hk2
    exact h5 (hB.inj hB2).1
  have hat : RAt w0 w4 g ob mb uv E ws' out' mod' h' := by
    have s := hst.at_
    obtain ⟨wv, hg, hw⟩ := s.rd
    obtain ⟨ov, xs, hob, hs1, hx⟩ := s.ou
    refine ⟨⟨wv, hg.chg hc (hap g (by simp)), hw⟩, ⟨ov, xs, hob.chg hc (hap ob (by simp)), hs1.chg hc fun b hb => hap b (by simp [hb]), OutAt.keep hkeep _ _ hx⟩, s.mo.chg hc (hap mb (by simp)), s.bel.trans (hc.below s.bel.size fun b hb => ?_), s.lo, s.ok, fun b hb => Nat.lt_of_lt_of_le (s.fl b hb) hc.size⟩
    have hb : hk = some b := by simpa using hb
    exact Nat.le_trans hlow (p.own b hb).1
  simp only [szL] at h2 hb hs
  refine ⟨⟨hat, hst.chg.trans hc fun i hi => .inr ?_, hst.new, hst.fnew⟩, ?_, ?_, ?_, ⟨by omega, by have := p.fuel.2; omega⟩, by have := p.bnd; simp only [szL] at this; omega, ?_⟩
  · have hi : hk = some i := by simpa using hi
    exact (p.own i hi).1
  · rw [intC_snoc]
    simpa using hsl
  · intro b hb
    rcases ho with h1 | ⟨b', h1, h4⟩
    · rw [h1] at hb
      exact ⟨(p.own b hb).1, hnf b hb⟩
    · rw [h1] at hb
      injection hb with hb
      subst hb
      exact ⟨Nat.le_trans hst.chg.size h4, fun hf => by have := hst.at_.fl _ hf; omega⟩
  · rw [p.go]
    cases j with
    | zero => omega
    | succ j =>
      rw [wholeP_step, hres, Nat.add_sub_cancel]
  · have := p.few
    simp only [szL] at this
    simp
    omega
end

/-- What whole hands back. -/
def WOut (w0 w : World) (g ob mb : Nat) (uv : Value) (E : CEnv) (h : Hn) (bound : Nat) (res : Option (Int × Out × Bool)) (e : Ending) (w' : World) : Prop :=
  ∃ k ok ws' out' mod' h', e = .returned (.tuple #[.int .i64 k, .bool ok]) ∧ KSt w0 w w' g ob mb uv E h ws' out' mod' h' ∧ res = (if ok = true then some (k, out', mod') else none) ∧ out'.length ≤ bound

section
variable {w0 w w' : World} {g ob mb : Nat} {uv : Value} {E : CEnv} {ws : List WT} {out : Out} {mod : Bool} {h : Hn}

set_option maxRecDepth 100000 in
set_option maxHeartbeats 4000000 in
theorem whole_anyK {N : Nat} (hr : KeyRec E N) (s : RAt w0 w g ob mb uv E ws out mod h) (he : EAt w0 uv E) (hN : szL ws ≤ N) (hn : out.length + 3 * szL ws ≤ 900000000000) :
    Calls Tryz.prog 19 #[.pointer (some ⟨g, 0, none⟩)] w (WOut w0 w g ob mb uv E h (out.length + 3 * szL ws + 1) (wholeP (keyP E N) N ws out mod [])) := by
  obtain ⟨i0, hi, hz0, hz1, hz2⟩ := info_parts Tryz.infoInt
  obtain ⟨res, hres⟩ : ∃ res, wholeP (keyP E N) N ws out mod [] = res := ⟨_, rfl⟩
  rw [hres]
  have HP0 := Lib.hid (show LSt w0 w w g ob mb uv E N res h (out.length + 3 * szL ws) (szL ws) (.slice none 0 0) [] none ws out mod h N from
    ⟨s.refl, Sl.nil _ _ _, by simp, hres.symm, ⟨hN, Nat.le_refl _⟩, Nat.le_refl _, by simp⟩)
  have HR := Lib.hid hr
  have HE := Lib.hid he
  obtain ⟨bnd, hbnd⟩ : ∃ bnd, out.length + 3 * szL ws = bnd := ⟨_, rfl⟩
  obtain ⟨S, hS⟩ : ∃ S, szL ws = S := ⟨_, rfl⟩
  rw [hbnd] at hn HP0
  rw [hS] at HP0
  rw [hbnd]
  have hS2 : S ≤ 900000000000 := by omega
  have HL0 := Lib.hid s.bel.size
  clear hres s hr he hbnd hS hN
  go_enter Tryz.func19, Tryz.ntmps19
  go_wp2_with fail
  go_loopw [4] (fun o wr => ∃ (kids : List Int) (hk : Option Nat) (wsj : List WT) (outj : Out) (modj : Bool) (hj : Hn) (j : Nat), Hid (LSt w0 w wr g ob mb uv E N res h bnd S o kids hk wsj outj modj hj j)) (fun _ wr => leftAt w0 wr g)
  case atStart => exact ⟨_, _, _, _, _, _, _, HP0⟩
  case round =>
    obtain ⟨kids, hk, wsj, outj, modj, hj, j, HP⟩ := hrel
    obtain ⟨wv, hg, hw⟩ := HP.out.kst.at_.rd
    cases wsj with
    | nil =>
      obtain ⟨A, cap, rfl, _, _⟩ := hw.form
      have e0 : wr.cell? ⟨g, 0, none⟩ = some (.slice A 0 cap) := hg.cell 0
      have hov := over_anyC HP.out.kst 1 kids u4 hk HP.out.sl (fun b hb => (HP.out.own b hb).1) (by have := HP.out.bnd; omega)
      have hgo := HP.out.go
      rw [wholeP_nil] at hgo
      have hbd := HP.out.bnd
      have hfw := HP.out.few
      obtain ⟨Ao, co, hov1, _⟩ := HP.out.sl.form
      have HGO := Lib.hid hgo
      have HBD := Lib.hid hbd
      generalize hkl : kids.length = n at hov1 hfw
      have HKL := Lib.hid hkl
      subst hov1
      clear hgo hbd hg hw HP hkl HP0
      go_wp2_with (first
        | (go_at_call 27; refine hov.mono ?_; rintro e w5 ⟨h5, rfl, hk5⟩; have HK5 := Lib.hid hk5; clear hk5 hov)
        | fail)
      go_ret2
      have h1 := HGO.out
      have h2 := HBD.out
      have h3 := HKL.out
      refine ⟨_, _, _, _, _, _, rfl, HK5.out, ?_, ?_⟩
      · rw [h1]
        cases kids with
        | nil =>
          simp at h3
          subst h3
          simp
        | cons a b =>
          have : n ≠ 0 := by rw [← h3]; simp
          simp
          omega
      · simp only [List.length_append, List.length_cons, List.length_nil]
        simp only [szL] at h2
        omega
    | cons t ts =>
      obtain ⟨A, cap, rfl, _, _⟩ := hw.form
      have e0 : wr.cell? ⟨g, 0, none⟩ = some (.slice A (ts.length + 1) cap) := hg.cell 0
      have hkey := HR.out _ _ _ _ _ _ _ _ _ _ HE.out HP.out.kst.at_ (by have := HP.out.fuel; omega) (by have := HP.out.bnd; omega)
      have hslk := fun w3 ws' out' mod' h' (k : KSt w0 wr w3 g ob mb uv E hj ws' out' mod' h') => k.ints HP.out.kst.at_ HP.out.sl
      have hfw := HP.out.few
      have hlf := HP.out.kst.at_.left
      have hl0 : w0.heap.size ≤ w.heap.size := HL0.out
      generalize ts.length = L at e0
      have HLF := Lib.hid hlf
      clear hg hw hlf HP0
      go_wp2_with (first
        | (go_at_call 26; refine hkey.mono ?_; rintro e w3 ⟨k, ok, ws', out', mod', h', rfl, hkk, hres, hb, hsz⟩; have HS3 := Lib.hid (hslk _ _ _ _ _ hkk); have HK := Lib.hid hkk; have HRES := Lib.hid hres; have HBD := Lib.hid hb; have HSZ := Lib.hid hsz; clear hkk hres hb hsz hkey hslk; cases ok)
        | (at_builtin; refine wpList_append_slX rfl _ _ 23 rfl Tryz.underlying23 hi hz0 hz1 hz2 rfl (by decide) HS3.out rfl w3.heap.size rfl 1 1 rfl rfl ?_ ?_ ?_ ?_)
        | fail)
      · go_ret2
        have h1 := HRES.out
        have h2 := HBD.out
        have h3 := HP.out.bnd
        simp only [Bool.false_eq_true, if_false] at h1
        refine ⟨_, false, _, _, _, _, rfl, HP.out.kst.trans HK.out, ?_, ?_⟩
        · rw [HP.out.bad h1]
          simp
        · omega
      · simp [Value.oneCell']
      · unfold maxLen
        omega
      · omega
      · intro v' hk' w4 r1 r2 r3
        have h1 := HRES.out
        have h4 := HSZ.out
        simp only [if_true] at h1 h4
        have hst := HP.out.push HK.out h1 HBD.out h4 (by simpa using r1) r2 (by simpa using r3) HL0.out
        have HST := Lib.hid hst
        have hms : leftAt w0 w4 g < leftAt w0 wr g := by
          rw [HLF.out, hst.kst.at_.left]
          omega
        have HMS := Lib.hid hms
        clear hst r1 r2 r3 HS3 hms h1 h4
        go_wp2
        refine ⟨?_, HMS.out⟩
        first | exact ⟨_, _, _, _, _, _, _, HST⟩ | ((repeat apply Exists.intro); exact ⟨⟨_, _, _, _, _, _, _, HST⟩, rfl⟩)
end

end Go.Proofs.YtnfabgbidkddhaaGreatDoor

namespace Go.Proofs.YtnfabgbidkddhaaGreatDoor
open Go.RowKit
attribute [local go_sem ↓] Go.wp_at_zero Go.wp_at_succ

section
variable {w0 w w2 w' : World} {g g2 ob mb : Nat} {uv : Value} {E : CEnv} {ws ws' : List WT} {out out' : Out} {mod mod' : Bool} {h h' : Hn}

/-- Another reader of the same terms. -/
theorem RAt.other (s : RAt w0 w g ob mb uv E ws out mod h) {wv : Value} (hw : WsAt w0 wv ws') (hok : okL ws') :
    RAt w0 (w.alloc (.cells #[wv, .int .i64 E.box, uv, .pointer (some ⟨ob, 0, none⟩), .pointer (some ⟨mb, 0, none⟩)] 62)) w.heap.size ob mb uv E ws' out mod h := by
  have s2 := s.below ((Below.refl w.heap.size w).alloc (Nat.le_refl _) (.cells #[wv, .int .i64 E.box, uv, .pointer (some ⟨ob, 0, none⟩), .pointer (some ⟨mb, 0, none⟩)] 62))
  obtain ⟨l1, l2, l3, l4⟩ := s.lo
  exact ⟨⟨wv, Blk.new _ _ _, hw⟩, s2.ou, s2.mo, s2.bel, ⟨s.bel.size, l2, l3, l4⟩, hok, s2.fl⟩
/-- What another reader has done. -/
theorem RAt.back (s : RAt w0 w g ob mb uv E ws out mod h) (hb : Below w.heap.size w w2) (k : KSt w0 w2 w' g2 ob mb uv E h ws' out' mod' h') (hg2 : w.heap.size ≤ g2) : KSt w0 w w' g ob mb uv E h ws out' mod' h' := by
  obtain ⟨n1, n2, n3, n4, n5, n6⟩ := s.ne
  obtain ⟨wv, hg, hw⟩ := s.rd
  have hgl := hg.lt
  refine ⟨⟨⟨wv, (hg.below hb hgl).chg k.chg ?_, hw⟩, k.at_.ou, k.at_.mo, k.at_.bel, ⟨s.lo.1, k.at_.lo.2⟩, s.ok, k.at_.fl⟩, (Chg.of_below hb (g :: ob :: mb :: h.b.toList)).trans k.chg fun i hi => ?_, ?_, fun b hf => (k.fnew b hf).imp id fun h => Nat.le_trans hb.size h⟩
  · simp only [List.mem_cons, Option.mem_toList, not_or]
    exact ⟨by omega, n1, n2, n4⟩
  · simp only [List.mem_cons] at hi ⊢
    rcases hi with hi | hi
    · exact .inr (by omega)
    · exact .inl (.inr hi)
  · rcases k.new with h1 | ⟨b, h1, h2⟩
    · exact .inl h1
    · exact .inr ⟨b, h1, Nat.le_trans hb.size h2⟩

set_option maxRecDepth 100000 in
set_option maxHeartbeats 4000000 in
theorem list_anyK {N : Nat} (hr : KeyRec E N) (s : RAt w0 w g ob mb uv E ws out mod h) (he : EAt w0 uv E) (kids : List WT) (v : Value) (hv : WsAt w0 v kids) (hok : okL kids) (hN : szL kids ≤ N) (hn : out.length + 3 * szL kids ≤ 900000000000) :
    Calls Tryz.prog 42 #[.pointer (some ⟨g, 0, none⟩), v] w (KOut w0 w g ob mb uv E h (out.length + 3 * szL kids + 1 + 3 * szL ws) (szL ws + 1) (listP N (keyP E N) kids ws out mod)) := by
  obtain ⟨A, c, rfl, _, _⟩ := hv.form
  obtain ⟨Au, cu, huv, _, _⟩ := he.uids.form
  obtain ⟨c1, c2, c3, c4⟩ := s.cells
  have hbel : ∀ c : Obj, Below w.heap.size w (w.drew.alloc c) := fun c => belowD (show Below w.heap.size w w.drew from ⟨rfl, rfl, rfl, Nat.le_refl _, fun _ _ => rfl⟩) ((Below.refl _ _).alloc (Nat.le_refl _) c)
  have sd : RAt w0 w.drew g ob mb uv E ws out mod h := s.below ⟨rfl, rfl, rfl, Nat.le_refl _, fun _ _ => rfl⟩
  have hwh := whole_anyK hr (sd.other hv hok) he hN hn
  have HS := Lib.hid s
  have HB := Lib.hid hbel
  generalize kids.length = L at *
  generalize E.uids.length = U at *
  subst huv
  clear s hr he hv hbel sd
  go_enter Tryz.func42, Tryz.ntmps42
  go_upto_region 1 with (fail)
  go_region_held3 (fun W => W.cell? ⟨g, 1, none⟩ = some (.int .i64 E.box) ∧ W.cell? ⟨g, 2, none⟩ = some (.slice Au U cu) ∧ W.cell? ⟨g, 3, none⟩ = some (.pointer (some ⟨ob, 0, none⟩)) ∧ W.cell? ⟨g, 4, none⟩ = some (.pointer (some ⟨mb, 0, none⟩))) (go_keep) (fail)
  all_goals
    go_wp2_with (first
      | (go_at_call 19; refine hwh.mono ?_; rintro e w5 ⟨k, ok, ws', out', mod', h', rfl, hk, hres, hb⟩; have HK := Lib.hid (HS.out.back (HB.out _) hk (Nat.le_refl _)); have HRES := Lib.hid hres; have HBD := Lib.hid hb; clear hk hres hb hwh)
      | fail)
    go_ret2
    have h1 := HRES.out
    have h2 := HBD.out
    refine ⟨_, ok, _, _, _, _, rfl, HK.out, ?_, by omega, by split <;> omega⟩
    · unfold listP
      rw [h1]
      cases ok <;> simp
end

/-- The keys of the table. -/
def askGood : Ask → Bool
  | .counts _ m => decide (0 ≤ m) && decide (m ≤ 1)
  | .un .keyword => true
  | .un (.has _) => true
  | .un _ => false
  | _ => true
theorem askTab_good : ∀ p ∈ askTab, askGood p.2 = true := by decide +kernel
theorem getS_mem {α : Type} : ∀ (m : List (ByteArray × α)) (x : ByteArray) (v : α), getS m x = some v → ∃ p ∈ m, p.2 = v
  | [], _, _, h => by simp [getS] at h
  | p :: r, x, v, h => by
    by_cases hp : (p.1 == x) = true
    · exact ⟨p, by simp, by simpa [getS, hp] using h⟩
    · have e : getS (p :: r) x = getS r x := by simp [getS, hp]
      rw [e] at h
      obtain ⟨q, h1, h2⟩ := getS_mem r x v h
      exact ⟨q, by simp [h1], h2⟩
theorem askOf_good {t : ByteArray} {a : Ask} (h : askOf t = some a) : askGood a = true := by
  obtain ⟨p, h1, rfl⟩ := getS_mem _ _ _ h
  exact askTab_good p h1

section
variable {w0 w w' : World} {g ob mb : Nat} {uv : Value} {E : CEnv} {ws : List WT} {out : Out} {mod : Bool} {h : Hn}

theorem ask_anyK {N : Nat} (hr : KeyRec E N) (s : RAt w0 w g ob mb uv E ws out mod h) (he : EAt w0 uv E) (hN : szL ws ≤ N) (hn : out.length + 3 * szL ws ≤ 900000000000) {n : FuncId} {caps : Array Value} :
    ∀ (a : Ask), askGood a = true → AskAt w a (.func (.func n) #[] caps) →
    Calls Tryz.prog n (#[.pointer (some ⟨g, 0, none⟩)] ++ caps) w (KOut w0 w g ob mb uv E h (out.length + 3 * szL ws + 3) (szL ws + 1) (askP E (keyP E N) a ws out mod))
  | .all, _, e => by
    injection e with e1 _ e2
    injection e1 with e1
    subst e1 e2
    exact (all_anyK s (by omega)).mono fun _ _ k => k.weaken (by simp only [Ask.cost]; omega) (Nat.le_refl _)
  | .keyword, _, e => by
    injection e with e1 _ e2
    injection e1 with e1
    subst e1 e2
    exact (keyword_anyK s (by omega)).mono fun _ _ k => k.weaken (by simp only [Ask.cost]; omega) (Nat.le_refl _)
  | .on, _, e => by
    injection e with e1 _ e2
    injection e1 with e1
    subst e1 e2
    exact (on_anyK s he (by omega)).mono fun _ _ k => k.weaken (by simp only [Ask.cost]; omega) (Nat.le_refl _)
  | .header, _, e => by
    injection e with e1 _ e2
    injection e1 with e1
    subst e1 e2
    exact (header_anyK s (by omega)).mono fun _ _ k => k.weaken (by simp only [Ask.cost]; omega) (Nat.le_refl _)
  | .uid, _, e => by
    injection e with e1 _ e2
    injection e1 with e1
    subst e1 e2
    exact (uid_anyK s he (by omega)).mono fun _ _ k => k.weaken (by simp only [Ask.cost]; omega) (Nat.le_refl _)
  | .modseq, _, e => by
    injection e with e1 _ e2
    injection e1 with e1
    subst e1 e2
    exact (modseq_anyK s (by omega)).mono fun _ _ k => k.weaken (by simp only [Ask.cost]; omega) (Nat.le_refl _)
  | .not, _, e => by
    injection e with e1 _ e2
    injection e1 with e1
    subst e1 e2
    exact (notM_anyK hr s he hN hn).mono fun _ _ k => k.weaken (by omega) (by omega)
  | .or, _, e => by
    injection e with e1 _ e2
    injection e1 with e1
    subst e1 e2
    exact (orM_anyK hr s he hN hn).mono fun _ _ k => k.weaken (by omega) (by omega)
  | .time k, _, ⟨b, e, hB⟩ => by
    injection e with e1 _ e2
    injection e1 with e1
    subst e1 e2
    exact (time_anyK s he hB (by omega)).mono fun _ _ k => k.weaken (by simp only [Ask.cost]; omega) (Nat.le_refl _)
  | .counts k m, hg, ⟨b, b', e, hB, hB2⟩ => by
    injection e with e1 _ e2
    injection e1 with e1
    subst e1 e2
    simp only [askGood, Bool.and_eq_true, decide_eq_true_eq] at hg
    exact (counts_anyK s hB hB2 hg (by omega)).mono fun _ _ k => k.weaken (by simp only [Ask.cost]; omega) (Nat.le_refl _)
  | .says k, _, ⟨b, e, hB⟩ => by
    injection e with e1 _ e2
    injection e1 with e1
    subst e1 e2
    exact (says_anyK s hB (by omega)).mono fun _ _ k => k.weaken (by simp only [Ask.cost]; omega) (Nat.le_refl _)
  | .head k, _, ⟨b, e, hB⟩ => by
    injection e with e1 _ e2
    injection e1 with e1
    subst e1 e2
    exact (head_anyK s hB (by omega)).mono fun _ _ k => k.weaken (by simp only [Ask.cost]; omega) (Nat.le_refl _)
  | .has k, _, ⟨b, e, hB⟩ => by
    injection e with e1 _ e2
    injection e1 with e1
    subst e1 e2
    exact (has_anyK s hB (by omega)).mono fun _ _ k => k.weaken (by simp only [Ask.cost]; omega) (Nat.le_refl _)
  | .un .keyword, _, ⟨b, f, e, hB, hf⟩ => by
    injection e with e1 _ e2
    injection e1 with e1
    subst e1 e2
    have hf : f = _ := hf
    subst hf
    exact (notKeyword_anyK hB (by simp only [Ask.cost]; omega) (keyword_anyK s (by omega))).mono fun _ _ k => k.weaken (by simp only [Ask.cost]; omega) (Nat.le_refl _)
  | .un (.has k), _, ⟨b, f, e, hB, b2, hf, hB2⟩ => by
    injection e with e1 _ e2
    injection e1 with e1
    subst e1 e2
    subst hf
    exact (notHas_anyK hB (by simp only [Ask.cost]; omega) (has_anyK s hB2 (by omega))).mono fun _ _ k => k.weaken (by simp only [Ask.cost]; omega) (Nat.le_refl _)
  | .un .all, hg, _ => by simp [askGood] at hg
  | .un .on, hg, _ => by simp [askGood] at hg
  | .un .header, hg, _ => by simp [askGood] at hg
  | .un .uid, hg, _ => by simp [askGood] at hg
  | .un .modseq, hg, _ => by simp [askGood] at hg
  | .un .not, hg, _ => by simp [askGood] at hg
  | .un .or, hg, _ => by simp [askGood] at hg
  | .un (.time _), hg, _ => by simp [askGood] at hg
  | .un (.counts _ _), hg, _ => by simp [askGood] at hg
  | .un (.says _), hg, _ => by simp [askGood] at hg
  | .un (.head _), hg, _ => by simp [askGood] at hg
  | .un (.un _), hg, _ => by simp [askGood] at hg
end

end Go.Proofs.YtnfabgbidkddhaaGreatDoor

namespace Go.Proofs.YtnfabgbidkddhaaGreatDoor
open Go.RowKit
attribute [local go_sem ↓] Go.wp_at_zero Go.wp_at_succ

/-- A key's function is one of the program's own. -/
theorem ask_enters {w : World} {n : FuncId} {caps : Array Value} : ∀ (a : Ask), AskAt w a (.func (.func n) #[] caps) → ∀ args W, (callFunc n args).run Tryz.prog W = .ok (.enter n args) W
  | .all, e => by
    injection e with e1 _ _
    injection e1 with e1
    subst e1
    exact enters_of Tryz.func66 (by kernel_rfl) rfl
  | .keyword, e => by
    injection e with e1 _ _
    injection e1 with e1
    subst e1
    exact enters_of Tryz.func67 (by kernel_rfl) rfl
  | .on, e => by
    injection e with e1 _ _
    injection e1 with e1
    subst e1
    exact enters_of Tryz.func69 (by kernel_rfl) rfl
  | .header, e => by
    injection e with e1 _ _
    injection e1 with e1
    subst e1
    exact enters_of Tryz.func70 (by kernel_rfl) rfl
  | .uid, e => by
    injection e with e1 _ _
    injection e1 with e1
    subst e1
    exact enters_of Tryz.func71 (by kernel_rfl) rfl
  | .modseq, e => by
    injection e with e1 _ _
    injection e1 with e1
    subst e1
    exact enters_of Tryz.func72 (by kernel_rfl) rfl
  | .not, e => by
    injection e with e1 _ _
    injection e1 with e1
    subst e1
    exact enters_of Tryz.func73 (by kernel_rfl) rfl
  | .or, e => by
    injection e with e1 _ _
    injection e1 with e1
    subst e1
    exact enters_of Tryz.func74 (by kernel_rfl) rfl
  | .time _, ⟨_, e, _⟩ => by
    injection e with e1 _ _
    injection e1 with e1
    subst e1
    exact enters_of Tryz.func110 (by kernel_rfl) rfl
  | .counts _ _, ⟨_, _, e, _, _⟩ => by
    injection e with e1 _ _
    injection e1 with e1
    subst e1
    exact enters_of Tryz.func111 (by kernel_rfl) rfl
  | .says _, ⟨_, e, _⟩ => by
    injection e with e1 _ _
    injection e1 with e1
    subst e1
    exact enters_of Tryz.func112 (by kernel_rfl) rfl
  | .head _, ⟨_, e, _⟩ => by
    injection e with e1 _ _
    injection e1 with e1
    subst e1
    exact enters_of Tryz.func113 (by kernel_rfl) rfl
  | .has _, ⟨_, e, _⟩ => by
    injection e with e1 _ _
    injection e1 with e1
    subst e1
    exact enters_of Tryz.func114 (by kernel_rfl) rfl
  | .un _, ⟨_, _, e, _, _⟩ => by
    injection e with e1 _ _
    injection e1 with e1
    subst e1
    exact enters_of Tryz.func107 (by kernel_rfl) rfl
theorem eqAsks_nil (w : World) : (Go.binOp BinOp.eql 98 Value.nilFunc Value.nilFunc).run Tryz.prog w = .ok (.bool true) w := by kernel_rfl
theorem eqAsks_fn (n : Fn) (caps : Array Value) (w : World) : (Go.binOp BinOp.eql 98 (Value.func n #[] caps) Value.nilFunc).run Tryz.prog w = .ok (.bool false) w := by kernel_rfl
theorem isPlace_nil : isPlace ByteArray.empty = false := by decide
theorem isPlace_cons (t : ByteArray) (h : 0 < t.size) : isPlace t = (decide ((t[0].toNat : Int) = 42) || (decide (48 ≤ (t[0].toNat : Int)) && decide ((t[0].toNat : Int) ≤ 57))) := by
  obtain ⟨⟨l⟩⟩ := t
  cases l with
  | nil => exact absurd h (by decide)
  | cons c r =>
    show (c == 42 || (decide (48 ≤ c) && decide (c ≤ 57))) = (decide ((c.toNat : Int) = 42) || (decide (48 ≤ (c.toNat : Int)) && decide ((c.toNat : Int) ≤ 57)))
    have e1 : (c == 42) = decide ((c.toNat : Int) = 42) := by
      rw [Bool.eq_iff_iff]
      simp only [beq_iff_eq, decide_eq_true_eq]
      constructor
      · rintro rfl
        rfl
      · intro h
        have : c.toNat = (42 : UInt8).toNat := by show c.toNat = 42; omega
        exact UInt8.toNat_inj.mp this
    have e2 : decide (48 ≤ c) = decide (48 ≤ (c.toNat : Int)) := by
      rw [decide_eq_decide, UInt8.le_iff_toNat_le]
      show 48 ≤ c.toNat ↔ _
      omega
    have e3 : decide (c ≤ 57) = decide ((c.toNat : Int) ≤ 57) := by
      rw [decide_eq_decide, UInt8.le_iff_toNat_le]
      show c.toNat ≤ 57 ↔ _
      omega
    rw [e1, e2, e3]

/-- Behind the first word: the word in a block of the call's own, the reader behind it. -/
structure KeySt (w0 w w1 : World) (g ob mb : Nat) (uv : Value) (E : CEnv) (h : Hn) (ts : List WT) (out : Out) (mod : Bool) (k : Int) (t : ByteArray) (u : Value) : Prop where
  st : KSt w0 w w1 g ob mb uv E h ts out mod h
  blk : Blk w1 w.heap.size 41 #[.int .i64 k, .string t, u]

section
variable {w0 w w' : World} {g ob mb : Nat} {uv : Value} {E : CEnv} {ws : List WT} {out : Out} {mod : Bool} {h : Hn}

set_option maxRecDepth 100000 in
theorem key_nil (s : RAt w0 w g ob mb uv E [] out mod h) (bound : Nat) (hb : out.length ≤ bound) :
    Calls Tryz.prog 26 #[.pointer (some ⟨g, 0, none⟩)] w (KOut w0 w g ob mb uv E h bound 0 none) := by
  obtain ⟨wv, hg, hw⟩ := s.rd
  have HS := Lib.hid s
  obtain ⟨A, cap, rfl, _, _⟩ := hw.form
  have e0 : w.cell? ⟨g, 0, none⟩ = some (.slice A 0 cap) := hg.cell 0
  clear s hg hw
  go_enter Tryz.func26, Tryz.ntmps26
  go_wp2
  go_ret2
  exact ⟨_, false, _, _, _, _, rfl, HS.out.refl, rfl, by simpa [szL] using hb, by simp [szL]⟩

set_option maxRecDepth 100000 in
set_option maxHeartbeats 8000000 in
theorem key_step {N : Nat} (hr : KeyRec E N) : KeyRec E (N + 1) := by
  intro w0 w g ob mb uv ws out mod h he s hN hn
  obtain ⟨wv, hg, hw⟩ := s.rd
  have HS := Lib.hid s
  have HE := Lib.hid he
  cases ws with
  | nil =>
    exact key_nil s _ (by omega)
  | cons t0 ts =>
    obtain ⟨k, t, kids⟩ := t0
    obtain ⟨b, off, cap, u, rfl, hc1, hc2, hbl, d0, d1, d2, hu, hrest⟩ := hw.head
    obtain ⟨Au, cu, hux0, _, _⟩ := hu.form
    have hux : u = .slice Au kids.length cu := hux0
    clear hux0
    have hu : WsAt w0 u kids := hu
    have e0 : w.cell? ⟨g, 0, none⟩ = some (.slice (some ⟨b, off, none⟩) (ts.length + 1) cap) := hg.cell 0
    have ef : w.frozen? ⟨g, 0, none⟩ = false := hg.frozen 0
    have d0' : w.cell? ⟨b, off, none⟩ = some (.int .i64 k) := (s.bel.cell (p := ⟨b, off, none⟩) hbl).trans d0
    have d1' : w.cell? ⟨b, off + 1, none⟩ = some (.string t) := (s.bel.cell (p := ⟨b, off + 1, none⟩) hbl).trans d1
    have d2' : w.cell? ⟨b, off + 2, none⟩ = some u := (s.bel.cell (p := ⟨b, off + 2, none⟩) hbl).trans d2
    have hok := s.ok
    unfold okL okW at hok
    obtain ⟨⟨hok1, hok2⟩, hok3⟩ := hok
    have hgl := hg.lt
    have hres : ∀ v, WsAt w0 v ts → KeySt w0 w ((w.setCell ⟨g, 0, none⟩ v).alloc (.cells #[.int .i64 k, .string t, u] 41)) g ob mb uv E h ts out mod k t u := fun v hv => by
      have k1 := s.take hv hok3
      have hsz : (w.setCell ⟨g, 0, none⟩ v).heap.size = w.heap.size := by simp [World.setCell]
      refine ⟨k1.below ((Below.refl _ _).alloc (Nat.le_refl _) _), ?_⟩
      have := Blk.new (w.setCell ⟨g, 0, none⟩ v) 41 #[.int .i64 k, .string t, u]
      rw [hsz] at this
      exact this
    have hkey : keyP E (N + 1) (.mk k t kids :: ts) out mod = if k = 3 then listP N (keyP E N) kids ts out mod
        else if k ≠ 1 then none
        else if isPlace t = true then placeP E t ts out mod
        else match askOf (lowS t) with
          | none => none
          | some a => askP E (keyP E N) a ts out mod := rfl
    rw [hkey]
    obtain ⟨res, hre⟩ : ∃ res, (if k = 3 then listP N (keyP E N) kids ts out mod
        else if k ≠ 1 then none
        else if isPlace t = true then placeP E t ts out mod
        else match askOf (lowS t) with
          | none => none
          | some a => askP E (keyP E N) a ts out mod) = res := ⟨_, rfl⟩
    rw [hre]
    have HRE := Lib.hid hre
    have hszl : szL (.mk k t kids :: ts) = 1 + szL kids + szL ts := by simp [szL, szW]
    rw [hszl] at hN hn ⊢
    have HR := Lib.hid hr
    have HU := Lib.hid hu
    have HOK2 := Lib.hid hok2
    have HOK1 := Lib.hid hok1
    have HREST := Lib.hid hrest
    have HRES := Lib.hid hres
    generalize kids.length = KL at hux
    generalize ts.length = L at e0 HREST hc1
    subst hux
    clear s hg hw d0 d1 d2 hu hrest hok1 hok2 hok3 hres hkey hszl he hr hre
    go_enter Tryz.func26, Tryz.ntmps26
    go_upto_region 4 with (fail)
    go_cut [] (fun wx => Hid (KeySt w0 w wx g ob mb uv E h ts out mod k t (.slice Au KL cu)))
    case first =>
      by_cases hcap : cap - 1 = 0
      · rw [if_pos hcap] at HREST
        obtain rfl : cap = 1 := by omega
        obtain rfl : L = 0 := by omega
        go_wp2
        go_meet
        exact HRES.out _ HREST.out
      · rw [if_neg hcap] at HREST
        go_wp2
        go_meet
        exact HRES.out _ HREST.out
    case rest =>
      have HK := hcut
      have c0 : wc.cell? ⟨w.heap.size, 0, none⟩ = some (.int .i64 k) := HK.out.blk.cell 0
      have c1 : wc.cell? ⟨w.heap.size, 1, none⟩ = some (.string t) := HK.out.blk.cell 1
      have c2 : wc.cell? ⟨w.heap.size, 2, none⟩ = some (.slice Au KL cu) := HK.out.blk.cell 2
      have hXl := HK.out.blk.lt
      have HX := Lib.hid hXl
      obtain ⟨X, hX⟩ : ∃ X, w.heap.size = X := ⟨_, rfl⟩
      rw [hX] at c0 c1 c2 HX
      rw [hX]
      have ht := HOK1.out
      clear hcut hXl hX HRES HREST
      go_upto_block 0 with (fail)
      go_cut [] (fun wx => wx = wc ∧ Hid (k = 1 ∧ isPlace t = false))
      case first =>
        by_cases hk3 : k = 3
        · subst hk3
          have hli := list_anyK HR.out HK.out.st.at_ HE.out kids _ HU.out HOK2.out (by omega) (by omega)
          have hre := HRE.out
          rw [if_pos rfl] at hre
          rw [hre] at hli
          clear hre
          go_wp2_with (first
            | (go_at_call 42; refine hli.mono ?_; rintro e w5 ⟨k5, ok5, ws5, out5, mod5, h5, rfl, hk5, r5, b5, s5⟩; have HK5 := Lib.hid (HK.out.st.trans hk5); have HR5 := Lib.hid r5; have HB5 := Lib.hid b5; have HS5 := Lib.hid s5; clear hk5 r5 b5 s5 hli)
            | fail)
          go_ret2
          exact ⟨_, ok5, _, _, _, _, rfl, HK5.out, HR5.out, by have := HB5.out; omega, by have := HS5.out; omega⟩
        · have hk3b : (k == 3) = false := by simpa using hk3
          by_cases hk1 : k = 1
          · subst hk1
            have hpl := fun (hp : isPlace t = true) => places_anyK HK.out.st.at_ HE.out t ht (by omega)
            have hre := HRE.out
            rw [if_neg (by decide), if_neg (by simp)] at hre
            have HRE2 := Lib.hid hre
            clear hre
            rcases Nat.eq_zero_or_pos t.size with h0 | h0
            · have hte : t = ByteArray.empty := of_dataL t [] (List.eq_nil_of_length_eq_zero (by rw [lenB]; exact h0))
              subst hte
              go_wp2
              go_meet
              exact ⟨by first | rfl | trivial, Lib.hid ⟨by first | rfl | trivial, isPlace_nil⟩⟩
            · have hne : t.toList.isEmpty = false := by
                rw [ByteArray.toList_eq, List.isEmpty_eq_false_iff]
                intro h
                have := lenB t
                rw [h] at this
                simp at this
                omega
              have hpc := isPlace_cons t h0
              have HPC := Lib.hid hpc
              clear hpc
              by_cases c42 : (t[0].toNat : Int) = 42
              · have hp : isPlace t = true := by rw [HPC.out, decide_eq_true c42]; rfl
                have hpl2 := hpl hp
                have hre := HRE2.out
                rw [if_pos hp] at hre
                rw [hre] at hpl2
                have hb1 : ((t[0].toNat : Int) == 42) = true := by simpa using c42
                clear hp hre hpl c42
                go_wp2_with (first
                  | (go_at_call 43; refine hpl2.mono ?_; rintro e w5 ⟨k5, ok5, ws5, out5, mod5, h5, rfl, hk5, r5, b5, s5⟩; have HK5 := Lib.hid (HK.out.st.trans hk5); have HR5 := Lib.hid r5; have HB5 := Lib.hid b5; have HS5 := Lib.hid s5; clear hk5 r5 b5 s5 hpl2)
                  | fail)
                go_ret2
                exact ⟨_, ok5, _, _, _, _, rfl, HK5.out, HR5.out, by have := HB5.out; omega, by have := HS5.out; omega⟩
              · have hb1 : ((t[0].toNat : Int) == 42) = false := by simpa using c42
                by_cases c48 : 48 ≤ (t[0].toNat : Int)
                · by_cases c57 : (t[0].toNat : Int) ≤ 57
                  · have hp : isPlace t = true := by rw [HPC.out, decide_eq_true c48, decide_eq_true c57]; simp
                    have hpl2 := hpl hp
                    have hre := HRE2.out
                    rw [if_pos hp] at hre
                    rw [hre] at hpl2
                    clear hp hre hpl
                    go_wp2_with (first
                      | (go_at_call 43; refine hpl2.mono ?_; rintro e w5 ⟨k5, ok5, ws5, out5, mod5, h5, rfl, hk5, r5, b5, s5⟩; have HK5 := Lib.hid (HK.out.st.trans hk5); have HR5 := Lib.hid r5; have HB5 := Lib.hid b5; have HS5 := Lib.hid s5; clear hk5 r5 b5 s5 hpl2)
                      | fail)
                    go_ret2
                    exact ⟨_, ok5, _, _, _, _, rfl, HK5.out, HR5.out, by have := HB5.out; omega, by have := HS5.out; omega⟩
                  · have hp : isPlace t = false := by rw [HPC.out, decide_eq_false c42, decide_eq_false c57]; simp
                    have HP := Lib.hid hp
                    clear hp hpl
                    go_wp2
                    go_meet
                    exact ⟨by first | rfl | trivial, Lib.hid ⟨by first | rfl | trivial, HP.out⟩⟩
                · have hp : isPlace t = false := by rw [HPC.out, decide_eq_false c42, decide_eq_false c48]; simp
                  have HP := Lib.hid hp
                  clear hp hpl
                  go_wp2
                  go_meet
                  exact ⟨by first | rfl | trivial, Lib.hid ⟨by first | rfl | trivial, HP.out⟩⟩
          · have hk1b : (k != 1) = true := by simpa using hk1
            have hre := HRE.out
            rw [if_neg hk3, if_pos hk1] at hre
            subst hre
            go_wp2
            go_ret2
            exact ⟨_, false, _, _, _, _, rfl, HK.out.st, rfl, by omega, by simp <;> omega⟩
      case rest =>
        obtain ⟨rfl, HP⟩ := hcut
        obtain ⟨rfl, hp⟩ := HP.out
        have hre := HRE.out
        rw [if_neg (by decide), if_neg (by simp), if_neg (by rw [hp]; decide)] at hre
        have HRE2 := Lib.hid hre
        obtain ⟨wz, hwz⟩ : ∃ wz, wz = wc := ⟨_, rfl⟩
        have hfd := fun W => fold_any t W (by omega)
        have hcx := fun W (hb : Below wc.heap.size wc W) => (hb.cell (p := ⟨X, 1, none⟩) HX.out).trans c1
        have HCX := Lib.hid hcx
        clear hre HP hp hcx HRE
        go_upto_region 11 with (fail)
        go_region_held3 (fun W => W.cell? ⟨X, 1, none⟩ = some (.string t)) (first | exact HC2.out | exact HC1.out | go_keep) (first
          | (go_at_call 44; refine (keys_anyC _).mono ?_; rintro e wk ⟨b2, rfl, hkt⟩; have HB1 := Lib.hid (show Below wc.heap.size wc wk from belowDD (by obtain ⟨m, hm⟩ := hkt; exact hm.bel)); have HC1 := Lib.hid (HCX.out _ HB1.out); have HKT := Lib.hid hkt; clear hkt)
          | (go_at_call 40; refine (hfd _).mono ?_; rintro e wf ⟨rfl, hbf⟩; have HB2 := Lib.hid (belowD HB1.out hbf); have HC2 := Lib.hid (HCX.out _ HB2.out); obtain ⟨m, hm⟩ := HKT.out.below hbf; have HM := Lib.hid hm; have hlk := run_lookup_str1 (P := Tryz.prog) Tryz.underlying99 Tryz.underlying9 zeroAsks hm.map (lowS t); obtain ⟨fv, hfv⟩ : ∃ fv, (getS m (lowS t)).getD .nilFunc = fv := ⟨_, rfl⟩; rw [hfv] at hlk; have HFV := Lib.hid hfv; clear hfv hm hbf)
          | fail)
        all_goals
          have hre := HRE2.out
          have hfv := HFV.out
          have HKF := Lib.hid (HK.out.st.below HB2.out)
          rcases HM.out.tab.get (lowS t) with ⟨h1, h2⟩ | ⟨a, v, h1, h2, h3⟩
          · have h1 : askOf (lowS t) = none := h1
            rw [h2] at hfv
            rw [h1] at hre
            have hfv : Value.nilFunc = fv := hfv
            subst hfv hre
            clear hlk h1 h2
            have hq := eqAsks_nil
            go_wp2
            go_ret2
            exact ⟨_, false, _, _, _, _, rfl, HKF.out, rfl, by omega, by simp <;> omega⟩
          · have h1 : askOf (lowS t) = some a := h1
            rw [h2] at hfv
            rw [h1] at hre
            have hfv : v = fv := hfv
            subst hfv
            obtain ⟨n, caps, rfl⟩ := h3.form
            have heg := ask_enters a h3
            have hask := ask_anyK HR.out HKF.out.at_ HE.out (by omega) (by omega) a (askOf_good h1) h3
            have hre : askP E (keyP E N) a ts out mod = res := hre
            rw [hre] at hask
            clear hlk h1 h2 h3 hre
            have hq := eqAsks_fn
            go_wp2_with (first
              | (refine hask.mono ?_; rintro e w5 ⟨k5, ok5, ws5, out5, mod5, h5, rfl, hk5, r5, b5, s5⟩; have HK5 := Lib.hid (HKF.out.trans hk5); have HR5 := Lib.hid r5; have HB5 := Lib.hid b5; have HS5 := Lib.hid s5; clear hk5 r5 b5 s5 hask)
              | fail)
            go_ret2
            exact ⟨_, ok5, _, _, _, _, rfl, HK5.out, HR5.out, by have := HB5.out; omega, by have := HS5.out; omega⟩

theorem key_all : ∀ N, KeyRec E N
  | 0 => by
    intro w0 w g ob mb uv ws out mod h he s hN hn
    cases ws with
    | nil => exact key_nil s _ (by omega)
    | cons t ts =>
      have := szW_pos t
      simp only [szL] at hN
      omega
  | N + 1 => key_step (key_all N)
end

end Go.Proofs.YtnfabgbidkddhaaGreatDoor

namespace Go.Proofs.YtnfabgbidkddhaaGreatDoor
open Go.RowKit
attribute [local go_sem ↓] Go.wp_at_zero Go.wp_at_succ

/-- What crit.Read hands back: terms in memory of the call's own, whether clocks are asked for, the number of an error. -/
def ROut (w : World) (r : Out × Bool × Int) (e : Ending) (w' : World) : Prop :=
  ∃ ov hb xs F, e = .returned (.tuple #[ov, .bool r.2.1, .int .i64 r.2.2]) ∧ Sl w' 57 6 ov hb r.1.length xs ∧ OutAt w' F r.1 xs ∧ Below w.heap.size w w'

set_option maxRecDepth 100000 in
set_option maxHeartbeats 4000000 in
theorem critRead_any (w : World) (v uv : Value) (E : CEnv) (ws : List WT) (hv : WsAt w v ws) (hok : okL ws) (he : EAt w uv E) (hsz : szL ws ≤ 100000000000) :
    Calls Tryz.prog 11 #[v, .int .i64 E.box, uv] w (ROut w (readP E ws)) := by
  obtain ⟨A, c, hvf, _, _⟩ := hv.form
  obtain ⟨Au, cu, huv, _, _⟩ := he.uids.form
  have hs0 : RAt w (((w.alloc (.cells #[.slice none 0 0] 27)).alloc (.cells #[.bool false] 4)).alloc (.cells #[v, .int .i64 E.box, uv, .pointer (some ⟨w.heap.size, 0, none⟩), .pointer (some ⟨w.heap.size + 1, 0, none⟩)] 62)) (w.heap.size + 1 + 1) w.heap.size (w.heap.size + 1) uv E ws [] false ⟨none, fun _ => False⟩ := by
    have b1 := Blk.new w 27 #[.slice none 0 0]
    have b2 := Blk.new (w.alloc (.cells #[.slice none 0 0] 27)) 4 #[.bool false]
    have b3 := Blk.new ((w.alloc (.cells #[.slice none 0 0] 27)).alloc (.cells #[.bool false] 4)) 62 #[v, .int .i64 E.box, uv, .pointer (some ⟨w.heap.size, 0, none⟩), .pointer (some ⟨w.heap.size + 1, 0, none⟩)]
    refine ⟨⟨v, by simpa using b3, hv⟩, ⟨_, [], (b1.alloc _).alloc _, Sl.nil _ _ _, rfl⟩, by simpa using b2.alloc _, (((Below.refl _ _).alloc (Nat.le_refl _) _).alloc (by simp) _).alloc (by simp; omega) _, ⟨by omega, Nat.le_refl _, by omega, by simp⟩, hok, by simp⟩
  have hwh := whole_anyK (key_all (szL ws)) hs0 he (Nat.le_refl _) (by simp; omega)
  obtain ⟨rr, hrr⟩ : ∃ rr, readP E ws = rr := ⟨_, rfl⟩
  rw [hrr]
  have HRR := Lib.hid hrr
  obtain ⟨U, hU⟩ : ∃ U, E.uids.length = U := ⟨_, rfl⟩
  obtain ⟨L, hL⟩ : ∃ L, ws.length = L := ⟨_, rfl⟩
  rw [hU] at huv
  rw [hL] at hvf
  subst huv hvf
  have HB0 := Lib.hid hs0.bel
  clear hs0 hv hok he hrr
  go_enter Tryz.func11, Tryz.ntmps11
  go_wp2_with (first
    | (go_at_call 19; refine hwh.mono ?_; rintro e w5 ⟨k, ok, ws', out', mod', h', rfl, hk, hres, hb⟩; have HK := Lib.hid hk; have HRES := Lib.hid hres; obtain ⟨ov, xs, ho, hs, hx⟩ := hk.at_.ou; obtain ⟨Ao, co, rfl, _, _⟩ := hs.form; have f1 : w5.cell? ⟨w.heap.size, 0, none⟩ = some (.slice Ao out'.length co) := ho.cell 0; have f2 : w5.cell? ⟨w.heap.size + 1, 0, none⟩ = some (.bool mod') := hk.at_.mo.cell 0; obtain ⟨n, hn⟩ : ∃ n, out'.length = n := ⟨_, rfl⟩; rw [hn] at f1 hs; have HN := Lib.hid hn; have HSL := Lib.hid hs; have HX := Lib.hid hx; clear hk hres hwh hb ho hs hx hn; cases ok <;> by_cases h40 : 40 < n)
    | fail)
  · have hr : rr = ([], false, 3) := by
      rw [← HRR.out]
      unfold readP
      rw [HRES.out]
      simp
    subst hr
    go_ret3
    exact ⟨_, none, [], fun _ => False, rfl, Sl.nil _ _ _, rfl, HK.out.at_.bel⟩
  · have hr : rr = ([], false, 3) := by
      rw [← HRR.out]
      unfold readP
      rw [HRES.out]
      simp
    subst hr
    go_ret3
    exact ⟨_, none, [], fun _ => False, rfl, Sl.nil _ _ _, rfl, HK.out.at_.bel⟩
  · have hr : rr = ([], false, 13) := by
      rw [← HRR.out]
      unfold readP
      rw [HRES.out]
      simp only [if_true]
      rw [if_pos (by rw [HN.out]; exact h40)]
    subst hr
    go_ret3
    exact ⟨_, none, [], fun _ => False, rfl, Sl.nil _ _ _, rfl, HK.out.at_.bel⟩
  · have hr : rr = (out', mod', 0) := by
      rw [← HRR.out]
      unfold readP
      rw [HRES.out]
      simp only [if_true]
      rw [if_neg (by rw [HN.out]; exact h40)]
    subst hr
    go_quiet (fail)
    go_wp2
    go_ret3
    have hb := HK.out.at_.bel
    exact ⟨_, h'.b, xs, h'.f, rfl, by rw [HN.out]; exact HSL.out.heap rfl, OutAt.keep (w := w5) (w' := w5.drewN _) (fun _ _ _ _ _ => rfl) _ _ HX.out, ⟨hb.os, hb.tape, hb.output, hb.size, hb.block⟩⟩

end Go.Proofs.YtnfabgbidkddhaaGreatDoor
