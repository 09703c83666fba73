/-
  The recursion of crit's reader: not, or, list, whole, key, by the number of words that are left.
-/
import Derived.Test.YtnfabgbidkddhaaGreatDoorCritPlacesM
import Derived.Test.YtnfabgbidkddhaaGreatDoorCritKeysWM
namespace Go.Proofs.YtnfabgbidkddhaaGreatDoor
open Go.RowKit
attribute [local go_sem ↓] Go.wp_at_zero Go.wp_at_succ

section
variable {w0 w w' : World} {g ob mb : Nat} {uv : Value} {E : CEnv} {ws : List WT} {out : Out} {mod : Bool} {h : Hn}

/-- What not does behind a key. -/
theorem KOut.not {bound sz : Nat} {res : Res} {k : Int} {ok : Bool} {ws' : List WT} {out' : Out} {mod' : Bool} {h'' : Hn} (hk : KSt w0 w w' g ob mb uv E h ws' (out' ++ [tmK 3 [k]]) mod' h'')
    (hres : res = (if ok = true then some (k, ws', out', mod') else none)) (hb : out'.length + 3 * szL ws' ≤ bound) (hs : szL ws' + (if ok = true then 1 else 0) ≤ sz) :
    KOut w0 w g ob mb uv E h (bound + 1) sz (notP res) (.returned (.tuple #[.int .i64 (out'.length : Nat), .bool ok])) w' := by
  refine ⟨_, ok, _, _, _, _, rfl, hk, ?_, ?_, hs⟩
  · rw [hres]
    cases ok <;> simp [notP, putP]
  · simp only [List.length_append, List.length_cons, List.length_nil]
    omega

set_option maxRecDepth 100000 in
set_option maxHeartbeats 4000000 in
theorem notKeyword_anyK {b : Nat} (hB : Blk w b 98 #[.func (.func 67) #[] #[]]) {bound sz : Nat} {res : Res} (hbd : bound ≤ 1000000000000)
    (hc : Calls Tryz.prog 67 #[.pointer (some ⟨g, 0, none⟩)] w (KOut w0 w g ob mb uv E h bound sz res)) :
    Calls Tryz.prog 107 #[.pointer (some ⟨g, 0, none⟩), .pointer (some ⟨b, 0, none⟩)] w (KOut w0 w g ob mb uv E h (bound + 1) sz (notP res)) := by
  have hcb : w.cell? ⟨b, 0, none⟩ = some (.func (.func 67) #[] #[]) := hB.cell 0
  clear hB
  go_enter Tryz.func107, Tryz.ntmps107
  go_wp2_with (first
    | (go_at_call 67; refine hc.mono ?_; rintro e w2 ⟨k, ok, ws', out', mod', h', rfl, hk, hres, hb, hsz⟩; have HK := Lib.hid hk; have HRES := Lib.hid hres; have HBD := Lib.hid hb; have HSZ := Lib.hid hsz; clear hk hres hb hsz hc)
    | (go_at_call 27; refine (over_anyC (HK.out.below ((Below.refl _ _).alloc (Nat.le_refl _) _)) 3 [k] _ _ (Sl.lit _ _ [.int .i64 k] 1 rfl (by decide)) (by rintro b ⟨rfl⟩; exact HK.out.chg.size) (by have := HBD.out; omega)).mono ?_; rintro e w5 ⟨h5, rfl, hk5⟩; have HK5 := Lib.hid hk5; clear hk5)
    | fail)
  go_ret2
  exact KOut.not HK5.out HRES.out HBD.out HSZ.out

set_option maxRecDepth 100000 in
set_option maxHeartbeats 4000000 in
theorem notHas_anyK {b : Nat} {b2 : Nat} (hB : Blk w b 98 #[.func (.func 114) #[] #[.pointer (some ⟨b2, 0, none⟩)]]) {bound sz : Nat} {res : Res} (hbd : bound ≤ 1000000000000)
    (hc : Calls Tryz.prog 114 #[.pointer (some ⟨g, 0, none⟩), .pointer (some ⟨b2, 0, none⟩)] w (KOut w0 w g ob mb uv E h bound sz res)) :
    Calls Tryz.prog 107 #[.pointer (some ⟨g, 0, none⟩), .pointer (some ⟨b, 0, none⟩)] w (KOut w0 w g ob mb uv E h (bound + 1) sz (notP res)) := by
  have hcb : w.cell? ⟨b, 0, none⟩ = some (.func (.func 114) #[] #[.pointer (some ⟨b2, 0, none⟩)]) := hB.cell 0
  clear hB
  go_enter Tryz.func107, Tryz.ntmps107
  go_wp2_with (first
    | (go_at_call 114; refine hc.mono ?_; rintro e w2 ⟨k, ok, ws', out', mod', h', rfl, hk, hres, hb, hsz⟩; have HK := Lib.hid hk; have HRES := Lib.hid hres; have HBD := Lib.hid hb; have HSZ := Lib.hid hsz; clear hk hres hb hsz hc)
    | (go_at_call 27; refine (over_anyC (HK.out.below ((Below.refl _ _).alloc (Nat.le_refl _) _)) 3 [k] _ _ (Sl.lit _ _ [.int .i64 k] 1 rfl (by decide)) (by rintro b ⟨rfl⟩; exact HK.out.chg.size) (by have := HBD.out; omega)).mono ?_; rintro e w5 ⟨h5, rfl, hk5⟩; have HK5 := Lib.hid hk5; clear hk5)
    | fail)
  go_ret2
  exact KOut.not HK5.out HRES.out HBD.out HSZ.out

set_option maxRecDepth 100000 in
set_option maxHeartbeats 4000000 in
theorem notKey_anyK {b : Nat} (hB : Blk w b 98 #[.func (.func 26) #[] #[]]) {bound sz : Nat} {res : Res} (hbd : bound ≤ 1000000000000)
    (hc : Calls Tryz.prog 26 #[.pointer (some ⟨g, 0, none⟩)] w (KOut w0 w g ob mb uv E h bound sz res)) :
    Calls Tryz.prog 107 #[.pointer (some ⟨g, 0, none⟩), .pointer (some ⟨b, 0, none⟩)] w (KOut w0 w g ob mb uv E h (bound + 1) sz (notP res)) := by
  have hcb : w.cell? ⟨b, 0, none⟩ = some (.func (.func 26) #[] #[]) := hB.cell 0
  clear hB
  go_enter Tryz.func107, Tryz.ntmps107
  go_wp2_with (first
    | (go_at_call 26; refine hc.mono ?_; rintro e w2 ⟨k, ok, ws', out', mod', h', rfl, hk, hres, hb, hsz⟩; have HK := Lib.hid hk; have HRES := Lib.hid hres; have HBD := Lib.hid hb; have HSZ := Lib.hid hsz; clear hk hres hb hsz hc)
    | (go_at_call 27; refine (over_anyC (HK.out.below ((Below.refl _ _).alloc (Nat.le_refl _) _)) 3 [k] _ _ (Sl.lit _ _ [.int .i64 k] 1 rfl (by decide)) (by rintro b ⟨rfl⟩; exact HK.out.chg.size) (by have := HBD.out; omega)).mono ?_; rintro e w5 ⟨h5, rfl, hk5⟩; have HK5 := Lib.hid hk5; clear hk5)
    | fail)
  go_ret2
  exact KOut.not HK5.out HRES.out HBD.out HSZ.out

end

/-- What is read is one. -/
theorem RdS.uniq {w : World} {S : List Nat} {size n n' : Nat} {v : Value} {xs xs' : List Value} (h : RdS w S size v n xs) (h' : RdS w S size v n' xs') : n = n' ∧ xs = xs' := by
  have hn : n = n' := by
    obtain ⟨A, c, e1, _⟩ := h.form
    obtain ⟨A', c', e2, _⟩ := h'.form
    rw [e1] at e2
    injection e2
  subst hn
  refine ⟨rfl, ?_⟩
  rcases Nat.eq_zero_or_pos n with h0 | h0
  · have l1 := h.1
    have l2 := h'.1
    subst h0
    rw [List.eq_nil_of_length_eq_zero (by omega : xs.length = 0), List.eq_nil_of_length_eq_zero (by omega : xs'.length = 0)]
  · obtain ⟨b, off, cap, e1, _, _, _, _, a1⟩ := h.at_ h0
    obtain ⟨b', off', cap', e2, _, _, _, _, a2⟩ := h'.at_ h0
    rw [e1] at e2
    injection e2 with e3
    injection e3 with e4
    injection e4 with e5 e6
    subst e5 e6
    apply List.ext_getElem?
    intro i
    by_cases hi : i < n * size
    · rw [← a1 i hi, ← a2 i hi]
    · rw [List.getElem?_eq_none (by rw [h.1]; omega), List.getElem?_eq_none (by rw [h'.1]; omega)]
mutual
theorem WAt.uniq {w : World} : ∀ (t t' : WT) (v : Value), WAt w t v → WAt w t' v → t.kids = t'.kids
  | .mk _ _ l, .mk _ _ l', v, h, h' => by
    unfold WAt at h h'
    obtain ⟨xs, h1, h2⟩ := h
    obtain ⟨xs', h3, h4⟩ := h'
    obtain ⟨_, rfl⟩ := h1.uniq h3
    exact CellsAt.uniq l l' xs h2 h4
theorem CellsAt.uniq {w : World} : ∀ (l l' : List WT) (xs : List Value), CellsAt w l xs → CellsAt w l' xs → l = l'
  | [], [], _, _, _ => rfl
  | [], t :: ts, xs, h, h' => by
    unfold CellsAt at h h'
    subst h
    obtain ⟨u, rest, e, _⟩ := h'
    cases e
  | t :: ts, [], xs, h, h' => by
    unfold CellsAt at h h'
    subst h'
    obtain ⟨u, rest, e, _⟩ := h
    cases e
  | t :: ts, t' :: ts', xs, h, h' => by
    unfold CellsAt at h h'
    obtain ⟨u, rest, e, h1, h2⟩ := h
    obtain ⟨u', rest', e', h1', h2'⟩ := h'
    rw [e] at e'
    simp only [List.cons.injEq, Value.int.injEq, true_and, Value.string.injEq] at e'
    obtain ⟨e1, e2, rfl, rfl⟩ := e'
    have e3 := WAt.uniq t t' u h1 h1'
    rw [CellsAt.uniq ts ts' rest h2 h2']
    cases t with
    | mk k x l =>
      cases t' with
      | mk k' x' l' =>
        simp only [WT.kind, WT.text, WT.kids] at e1 e2 e3
        rw [e1, e2, e3]
end
/-- How many words a reader has before it. -/
noncomputable def leftAt (w0 w : World) (g : Nat) : Nat := by
  classical
  exact if hx : ∃ ws wv, w.cell? ⟨g, 0, none⟩ = some wv ∧ WsAt w0 wv ws then szL hx.choose else 0
theorem leftAt_eq {w0 w : World} {g : Nat} {wv : Value} {ws : List WT} (hc : w.cell? ⟨g, 0, none⟩ = some wv) (hw : WsAt w0 wv ws) : leftAt w0 w g = szL ws := by
  unfold leftAt
  have hx : ∃ ws wv, w.cell? ⟨g, 0, none⟩ = some wv ∧ WsAt w0 wv ws := ⟨ws, wv, hc, hw⟩
  rw [dif_pos hx]
  obtain ⟨wv', h1, h2⟩ := hx.choose_spec
  rw [hc] at h1
  injection h1 with h1
  subst h1
  obtain ⟨xs, a1, a2⟩ := hw
  obtain ⟨xs', b1, b2⟩ := h2
  obtain ⟨_, rfl⟩ := a1.uniq b1
  rw [CellsAt.uniq _ _ _ a2 b2]
theorem RAt.left {w0 w : World} {g ob mb : Nat} {uv : Value} {E : CEnv} {ws : List WT} {out : Out} {mod : Bool} {h : Hn} (s : RAt w0 w g ob mb uv E ws out mod h) : leftAt w0 w g = szL ws := by
  obtain ⟨wv, hg, hw⟩ := s.rd
  exact leftAt_eq (hg.cell 0) hw

section
variable {w0 w w' : World} {g ob mb : Nat} {uv : Value} {E : CEnv} {ws : List WT} {out : Out} {mod : Bool} {h : Hn}

theorem KOut.weaken {bound bound' sz sz' : Nat} {res : Res} {e : Ending} (k : KOut w0 w g ob mb uv E h bound sz res e w') (hb : bound ≤ bound') (hs : sz ≤ sz') : KOut w0 w g ob mb uv E h bound' sz' res e w' := by
  obtain ⟨k, ok, ws', out', mod', h', h1, h2, h3, h4, h5⟩ := k
  exact ⟨k, ok, ws', out', mod', h', h1, h2, h3, by omega, by omega⟩
theorem KOut.after {w1 : World} {bound sz : Nat} {res : Res} {e : Ending} (k : KOut w0 w1 g ob mb uv E h bound sz res e w') (hb : Below w.heap.size w w1) : KOut w0 w g ob mb uv E h bound sz res e w' := by
  obtain ⟨k, ok, ws', out', mod', h', h1, h2, h3, h4, h5⟩ := k
  exact ⟨k, ok, ws', out', mod', h', h1, h2.after hb, h3, h4, h5⟩

/-- The contract of key, of so many words at most. -/
def KeyRec (E : CEnv) (N : Nat) : Prop := ∀ (w0 w : World) (g ob mb : Nat) (uv : Value) (ws : List WT) (out : Out) (mod : Bool) (h : Hn), EAt w0 uv E → RAt w0 w g ob mb uv E ws out mod h → szL ws ≤ N → out.length + 3 * szL ws ≤ 900000000000 →
  Calls Tryz.prog 26 #[.pointer (some ⟨g, 0, none⟩)] w (KOut w0 w g ob mb uv E h (out.length + 3 * szL ws) (szL ws) (keyP E N ws out mod))

theorem not_anyF (n : FuncId) (w : World) : Calls Tryz.prog 68 #[.func (.func n) #[] #[]] w fun e w' => ∃ b, e = .returned (.func (.func 107) #[] #[.pointer (some ⟨b, 0, none⟩)]) ∧ Blk w' b 98 #[.func (.func n) #[] #[]] ∧ Below w.heap.size w w' := by
  go_enter Tryz.func68, Tryz.ntmps68
  go_wp2
  go_ret
  exact ⟨_, rfl, Blk.new _ _ _, (Below.refl _ _).alloc (Nat.le_refl _) _⟩

set_option maxRecDepth 100000 in
set_option maxHeartbeats 4000000 in
theorem notM_anyK {N : Nat} (hr : KeyRec E N) (s : RAt w0 w g ob mb uv E ws out mod h) (he : EAt w0 uv E) (hN : szL ws ≤ N) (hn : out.length + 3 * szL ws ≤ 900000000000) :
    Calls Tryz.prog 73 #[.pointer (some ⟨g, 0, none⟩)] w (KOut w0 w g ob mb uv E h (out.length + 3 * szL ws + 1) (szL ws) (notP (keyP E N ws out mod))) := by
  have hnot := not_anyF 26 w
  have HS := Lib.hid s
  have HR := Lib.hid hr
  have HE := Lib.hid he
  clear s hr he
  go_enter Tryz.func73, Tryz.ntmps73
  go_wp2_with (first
    | (go_at_call 68; refine hnot.mono ?_; rintro e w2 ⟨b, rfl, hB, hb2⟩; have HB := Lib.hid hB; have HB2 := Lib.hid hb2; clear hB hb2 hnot)
    | (go_at_call 107; refine (notKey_anyK HB.out (by omega) (HR.out _ _ _ _ _ _ _ _ _ _ HE.out (HS.out.below HB2.out) hN hn)).mono ?_; intro e w3 hk0; have hk1 := hk0.after HB2.out; obtain ⟨k, ok, ws', out', mod', h', rfl, hk2⟩ := hk1; have HK := Lib.hid hk2; clear hk2 hk0)
    | fail)
  go_ret2
  exact ⟨k, ok, ws', out', mod', h', rfl, HK.out⟩

set_option maxRecDepth 100000 in
set_option maxHeartbeats 4000000 in
theorem orM_anyK {N : Nat} (hr : KeyRec E N) (s : RAt w0 w g ob mb uv E ws out mod h) (he : EAt w0 uv E) (hN : szL ws ≤ N) (hn : out.length + 3 * szL ws ≤ 900000000000) :
    Calls Tryz.prog 74 #[.pointer (some ⟨g, 0, none⟩)] w (KOut w0 w g ob mb uv E h (out.length + 3 * szL ws + 1) (szL ws) (orP (keyP E N) ws out mod)) := by
  have h1 := hr _ _ _ _ _ _ _ _ _ _ he s hN hn
  have HR := Lib.hid hr
  have HE := Lib.hid he
  clear s hr he
  go_enter Tryz.func74, Tryz.ntmps74
  go_wp2_with (first
    | (go_at_call 26; refine h1.mono ?_; rintro e w2 ⟨k, ok, ws', out', mod', h', rfl, hk, hres, hb, hsz⟩; have HK := Lib.hid hk; have HRES := Lib.hid hres; have HBD := Lib.hid hb; have HSZ := Lib.hid hsz; clear hk hres hb hsz h1; cases ok)
    | (go_at_call 26; refine (HR.out _ _ _ _ _ _ _ _ _ _ HE.out HK.out.at_ (by have := HSZ.out; omega) (by have := HBD.out; omega)).mono ?_; rintro e w3 ⟨k2, ok2, ws2, out2, mod2, h2, rfl, hk2, hres2, hb2, hsz2⟩; have HK2 := Lib.hid (HK.out.trans hk2); have HRES2 := Lib.hid hres2; have HBD2 := Lib.hid hb2; have HSZ2 := Lib.hid hsz2; clear hk2 hres2 hb2 hsz2 HK)
    | (go_at_call 27; refine (over_anyC (HK2.out.below ((Below.refl _ _).alloc (Nat.le_refl _) _)) 2 [k, k2] _ _ (Sl.lit _ _ [.int .i64 k, .int .i64 k2] 2 rfl (by decide)) (by rintro b ⟨rfl⟩; exact HK2.out.chg.size) (by have := HBD.out; have := HBD2.out; omega)).mono ?_; rintro e w5 ⟨h5, rfl, hk5⟩; have HK5 := Lib.hid hk5; clear hk5)
    | fail)
  · go_ret2
    have e1 := HRES.out
    have e2 := HBD.out
    have e3 := HSZ.out
    simp only [Bool.false_eq_true, if_false] at e1 e3
    exact ⟨_, false, _, _, _, _, rfl, HK.out, by simp [orP, e1], by omega, by simpa using e3⟩
  · go_ret2
    have e1 := HRES.out
    have e2 := HBD.out
    have e3 := HSZ.out
    have e4 := HRES2.out
    have e5 := HBD2.out
    have e6 := HSZ2.out
    simp only [if_true] at e1 e3
    refine ⟨_, ok2, _, _, _, _, rfl, HK5.out, ?_, ?_, ?_⟩
    · cases ok2
      · simp only [Bool.false_eq_true, if_false] at e4
        simp [orP, e1, e4]
      · simp only [if_true] at e4
        simp [orP, e1, e4, putP]
    · simp only [List.length_append, List.length_cons, List.length_nil]
      omega
    · omega
end

end Go.Proofs.YtnfabgbidkddhaaGreatDoor
