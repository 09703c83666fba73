/-
  The walk of crit's list, and what a key told asks.
-/
import Derived.Test.YtnfabgbidkddhaaGreatDoorCritWholeM
namespace Go.Proofs.YtnfabgbidkddhaaGreatDoor
open Go.RowKit
attribute [local go_sem ↓] Go.wp_at_zero Go.wp_at_succ

section
variable {w0 w w2 w' : World} {g g2 ob mb : Nat} {uv : Value} {E : CEnv} {ws ws' : List WT} {out out' : Out} {mod mod' : Bool} {h h' : Hn}

/-- Another reader of the same terms. -/
theorem RAt.other (s : RAt w0 w g ob mb uv E ws out mod h) {wv : Value} (hw : WsAt w0 wv ws') (hok : okL ws') :
    RAt w0 (w.alloc (.cells #[wv, .int .i64 E.box, uv, .pointer (some ⟨ob, 0, none⟩), .pointer (some ⟨mb, 0, none⟩)] 62)) w.heap.size ob mb uv E ws' out mod h := by
  have s2 := s.below ((Below.refl w.heap.size w).alloc (Nat.le_refl _) (.cells #[wv, .int .i64 E.box, uv, .pointer (some ⟨ob, 0, none⟩), .pointer (some ⟨mb, 0, none⟩)] 62))
  obtain ⟨l1, l2, l3, l4⟩ := s.lo
  exact ⟨⟨wv, Blk.new _ _ _, hw⟩, s2.ou, s2.mo, s2.bel, ⟨s.bel.size, l2, l3, l4⟩, hok, s2.fl⟩
/-- What another reader has done. -/
theorem RAt.back (s : RAt w0 w g ob mb uv E ws out mod h) (hb : Below w.heap.size w w2) (k : KSt w0 w2 w' g2 ob mb uv E h ws' out' mod' h') (hg2 : w.heap.size ≤ g2) : KSt w0 w w' g ob mb uv E h ws out' mod' h' := by
  obtain ⟨n1, n2, n3, n4, n5, n6⟩ := s.ne
  obtain ⟨wv, hg, hw⟩ := s.rd
  have hgl := hg.lt
  refine ⟨⟨⟨wv, (hg.below hb hgl).chg k.chg ?_, hw⟩, k.at_.ou, k.at_.mo, k.at_.bel, ⟨s.lo.1, k.at_.lo.2⟩, s.ok, k.at_.fl⟩, (Chg.of_below hb (g :: ob :: mb :: h.b.toList)).trans k.chg fun i hi => ?_, ?_, fun b hf => (k.fnew b hf).imp id fun h => Nat.le_trans hb.size h⟩
  · simp only [List.mem_cons, Option.mem_toList, not_or]
    exact ⟨by omega, n1, n2, n4⟩
  · simp only [List.mem_cons] at hi ⊢
    rcases hi with hi | hi
    · exact .inr (by omega)
    · exact .inl (.inr hi)
  · rcases k.new with h1 | ⟨b, h1, h2⟩
    · exact .inl h1
    · exact .inr ⟨b, h1, Nat.le_trans hb.size h2⟩

set_option maxRecDepth 100000 in
set_option maxHeartbeats 4000000 in
theorem list_anyK {N : Nat} (hr : KeyRec E N) (s : RAt w0 w g ob mb uv E ws out mod h) (he : EAt w0 uv E) (kids : List WT) (v : Value) (hv : WsAt w0 v kids) (hok : okL kids) (hN : szL kids ≤ N) (hn : out.length + 3 * szL kids ≤ 900000000000) :
    Calls Tryz.prog 42 #[.pointer (some ⟨g, 0, none⟩), v] w (KOut w0 w g ob mb uv E h (out.length + 3 * szL kids + 1 + 3 * szL ws) (szL ws + 1) (listP N (keyP E N) kids ws out mod)) := by
  obtain ⟨A, c, rfl, _, _⟩ := hv.form
  obtain ⟨Au, cu, huv, _, _⟩ := he.uids.form
  obtain ⟨c1, c2, c3, c4⟩ := s.cells
  have hbel : ∀ c : Obj, Below w.heap.size w (w.drew.alloc c) := fun c => belowD (show Below w.heap.size w w.drew from ⟨rfl, rfl, rfl, Nat.le_refl _, fun _ _ => rfl⟩) ((Below.refl _ _).alloc (Nat.le_refl _) c)
  have sd : RAt w0 w.drew g ob mb uv E ws out mod h := s.below ⟨rfl, rfl, rfl, Nat.le_refl _, fun _ _ => rfl⟩
  have hwh := whole_anyK hr (sd.other hv hok) he hN hn
  have HS := Lib.hid s
  have HB := Lib.hid hbel
  generalize kids.length = L at *
  generalize E.uids.length = U at *
  subst huv
  clear s hr he hv hbel sd
  go_enter Tryz.func42, Tryz.ntmps42
  go_upto_region 1 with (fail)
  go_region_held3 (fun W => W.cell? ⟨g, 1, none⟩ = some (.int .i64 E.box) ∧ W.cell? ⟨g, 2, none⟩ = some (.slice Au U cu) ∧ W.cell? ⟨g, 3, none⟩ = some (.pointer (some ⟨ob, 0, none⟩)) ∧ W.cell? ⟨g, 4, none⟩ = some (.pointer (some ⟨mb, 0, none⟩))) (go_keep) (fail)
  all_goals
    go_wp2_with (first
      | (go_at_call 19; refine hwh.mono ?_; rintro e w5 ⟨k, ok, ws', out', mod', h', rfl, hk, hres, hb⟩; have HK := Lib.hid (HS.out.back (HB.out _) hk (Nat.le_refl _)); have HRES := Lib.hid hres; have HBD := Lib.hid hb; clear hk hres hb hwh)
      | fail)
    go_ret2
    have h1 := HRES.out
    have h2 := HBD.out
    refine ⟨_, ok, _, _, _, _, rfl, HK.out, ?_, by omega, by split <;> omega⟩
    · unfold listP
      rw [h1]
      cases ok <;> simp
end

/-- The keys of the table. -/
def askGood : Ask → Bool
  | .counts _ m => decide (0 ≤ m) && decide (m ≤ 1)
  | .un .keyword => true
  | .un (.has _) => true
  | .un _ => false
  | _ => true
theorem askTab_good : ∀ p ∈ askTab, askGood p.2 = true := by decide +kernel
theorem getS_mem {α : Type} : ∀ (m : List (ByteArray × α)) (x : ByteArray) (v : α), getS m x = some v → ∃ p ∈ m, p.2 = v
  | [], _, _, h => by simp [getS] at h
  | p :: r, x, v, h => by
    by_cases hp : (p.1 == x) = true
    · exact ⟨p, by simp, by simpa [getS, hp] using h⟩
    · have e : getS (p :: r) x = getS r x := by simp [getS, hp]
      rw [e] at h
      obtain ⟨q, h1, h2⟩ := getS_mem r x v h
      exact ⟨q, by simp [h1], h2⟩
theorem askOf_good {t : ByteArray} {a : Ask} (h : askOf t = some a) : askGood a = true := by
  obtain ⟨p, h1, rfl⟩ := getS_mem _ _ _ h
  exact askTab_good p h1

section
variable {w0 w w' : World} {g ob mb : Nat} {uv : Value} {E : CEnv} {ws : List WT} {out : Out} {mod : Bool} {h : Hn}

theorem ask_anyK {N : Nat} (hr : KeyRec E N) (s : RAt w0 w g ob mb uv E ws out mod h) (he : EAt w0 uv E) (hN : szL ws ≤ N) (hn : out.length + 3 * szL ws ≤ 900000000000) {n : FuncId} {caps : Array Value} :
    ∀ (a : Ask), askGood a = true → AskAt w a (.func (.func n) #[] caps) →
    Calls Tryz.prog n (#[.pointer (some ⟨g, 0, none⟩)] ++ caps) w (KOut w0 w g ob mb uv E h (out.length + 3 * szL ws + 3) (szL ws + 1) (askP E (keyP E N) a ws out mod))
  | .all, _, e => by
    injection e with e1 _ e2
    injection e1 with e1
    subst e1 e2
    exact (all_anyK s (by omega)).mono fun _ _ k => k.weaken (by simp only [Ask.cost]; omega) (Nat.le_refl _)
  | .keyword, _, e => by
    injection e with e1 _ e2
    injection e1 with e1
    subst e1 e2
    exact (keyword_anyK s (by omega)).mono fun _ _ k => k.weaken (by simp only [Ask.cost]; omega) (Nat.le_refl _)
  | .on, _, e => by
    injection e with e1 _ e2
    injection e1 with e1
    subst e1 e2
    exact (on_anyK s he (by omega)).mono fun _ _ k => k.weaken (by simp only [Ask.cost]; omega) (Nat.le_refl _)
  | .header, _, e => by
    injection e with e1 _ e2
    injection e1 with e1
    subst e1 e2
    exact (header_anyK s (by omega)).mono fun _ _ k => k.weaken (by simp only [Ask.cost]; omega) (Nat.le_refl _)
  | .uid, _, e => by
    injection e with e1 _ e2
    injection e1 with e1
    subst e1 e2
    exact (uid_anyK s he (by omega)).mono fun _ _ k => k.weaken (by simp only [Ask.cost]; omega) (Nat.le_refl _)
  | .modseq, _, e => by
    injection e with e1 _ e2
    injection e1 with e1
    subst e1 e2
    exact (modseq_anyK s (by omega)).mono fun _ _ k => k.weaken (by simp only [Ask.cost]; omega) (Nat.le_refl _)
  | .not, _, e => by
    injection e with e1 _ e2
    injection e1 with e1
    subst e1 e2
    exact (notM_anyK hr s he hN hn).mono fun _ _ k => k.weaken (by omega) (by omega)
  | .or, _, e => by
    injection e with e1 _ e2
    injection e1 with e1
    subst e1 e2
    exact (orM_anyK hr s he hN hn).mono fun _ _ k => k.weaken (by omega) (by omega)
  | .time k, _, ⟨b, e, hB⟩ => by
    injection e with e1 _ e2
    injection e1 with e1
    subst e1 e2
    exact (time_anyK s he hB (by omega)).mono fun _ _ k => k.weaken (by simp only [Ask.cost]; omega) (Nat.le_refl _)
  | .counts k m, hg, ⟨b, b', e, hB, hB2⟩ => by
    injection e with e1 _ e2
    injection e1 with e1
    subst e1 e2
    simp only [askGood, Bool.and_eq_true, decide_eq_true_eq] at hg
    exact (counts_anyK s hB hB2 hg (by omega)).mono fun _ _ k => k.weaken (by simp only [Ask.cost]; omega) (Nat.le_refl _)
  | .says k, _, ⟨b, e, hB⟩ => by
    injection e with e1 _ e2
    injection e1 with e1
    subst e1 e2
    exact (says_anyK s hB (by omega)).mono fun _ _ k => k.weaken (by simp only [Ask.cost]; omega) (Nat.le_refl _)
  | .head k, _, ⟨b, e, hB⟩ => by
    injection e with e1 _ e2
    injection e1 with e1
    subst e1 e2
    exact (head_anyK s hB (by omega)).mono fun _ _ k => k.weaken (by simp only [Ask.cost]; omega) (Nat.le_refl _)
  | .has k, _, ⟨b, e, hB⟩ => by
    injection e with e1 _ e2
    injection e1 with e1
    subst e1 e2
    exact (has_anyK s hB (by omega)).mono fun _ _ k => k.weaken (by simp only [Ask.cost]; omega) (Nat.le_refl _)
  | .un .keyword, _, ⟨b, f, e, hB, hf⟩ => by
    injection e with e1 _ e2
    injection e1 with e1
    subst e1 e2
    have hf : f = _ := hf
    subst hf
    exact (notKeyword_anyK hB (by simp only [Ask.cost]; omega) (keyword_anyK s (by omega))).mono fun _ _ k => k.weaken (by simp only [Ask.cost]; omega) (Nat.le_refl _)
  | .un (.has k), _, ⟨b, f, e, hB, b2, hf, hB2⟩ => by
    injection e with e1 _ e2
    injection e1 with e1
    subst e1 e2
    subst hf
    exact (notHas_anyK hB (by simp only [Ask.cost]; omega) (has_anyK s hB2 (by omega))).mono fun _ _ k => k.weaken (by simp only [Ask.cost]; omega) (Nat.le_refl _)
  | .un .all, hg, _ => by simp [askGood] at hg
  | .un .on, hg, _ => by simp [askGood] at hg
  | .un .header, hg, _ => by simp [askGood] at hg
  | .un .uid, hg, _ => by simp [askGood] at hg
  | .un .modseq, hg, _ => by simp [askGood] at hg
  | .un .not, hg, _ => by simp [askGood] at hg
  | .un .or, hg, _ => by simp [askGood] at hg
  | .un (.time _), hg, _ => by simp [askGood] at hg
  | .un (.counts _ _), hg, _ => by simp [askGood] at hg
  | .un (.says _), hg, _ => by simp [askGood] at hg
  | .un (.head _), hg, _ => by simp [askGood] at hg
  | .un (.un _), hg, _ => by simp [askGood] at hg
end

end Go.Proofs.YtnfabgbidkddhaaGreatDoor
