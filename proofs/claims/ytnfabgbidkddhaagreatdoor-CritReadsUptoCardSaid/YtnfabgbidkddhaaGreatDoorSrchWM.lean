/-
  The walks of the reference's search: add, not.
-/
import Derived.Test.YtnfabgbidkddhaaGreatDoorSrchM
import Derived.Test.YtnfabgbidkddhaaGreatDoorGRB
import Derived.Test.YtnfabgbidkddhaaGreatDoorCritAsk2M
namespace Go.Proofs.YtnfabgbidkddhaaGreatDoor
open Go.RowKit
attribute [local go_sem ↓] Go.wp_at_zero Go.wp_at_succ

section
variable {w0 w w' wS : World} {g : Nat} {uv : Value} {E : CEnv} {ws : List WT} {out out' : Out} {mod bad : Bool} {h h0 : Hn}

theorem SSt.putting {F : Nat → Prop} {hb : Option Nat} (k : SSt w0 wS w g uv E h0 ws out mod bad h) (p1 : SAt w0 w' g uv E ws out' mod bad ⟨hb, F⟩) (p2 : Chg (g :: h.b.toList) w w') (p3 : hb = h.b ∨ ∃ b, hb = some b ∧ w.heap.size ≤ b) (hF : ∀ b, F b → h.f b ∨ wS.heap.size ≤ b) : SSt w0 wS w' g uv E h0 ws out' mod bad ⟨hb, F⟩ := by
  refine ⟨p1, k.chg.trans p2 fun i hi => ?_, ?_, fun b hb => ?_⟩
  · simp only [List.mem_cons, Option.mem_toList] at hi ⊢
    rcases hi with hi | hi
    · exact .inl (.inl hi)
    · rcases k.new with h1 | ⟨b, h1, h2⟩
      · exact .inl (.inr (by rw [← h1]; exact hi))
      · rw [h1] at hi
        injection hi with hi
        exact .inr (by omega)
  · rcases p3 with h1 | ⟨b, h1, h2⟩
    · show hb = h0.b ∨ ∃ b, hb = some b ∧ wS.heap.size ≤ b
      rw [h1]
      exact k.new
    · exact .inr ⟨b, h1, Nat.le_trans k.chg.size h2⟩
  · rcases hF b hb with h1 | h1
    · exact k.fnew b h1
    · exact .inr h1

set_option maxRecDepth 100000 in
set_option maxHeartbeats 2000000 in
theorem addF_anyS (s : SAt w0 w g uv E ws out mod bad h) (t : Tm) (sv kv : Value) {F : Nat → Prop} (hF : ∀ b, h.f b → F b) (hFl : ∀ b, F b → b < w.heap.size) (ht : TmOk w F t sv kv) (hn : out.length ≤ 1099511627776) :
    Calls Tryz.prog 29 #[.pointer (some ⟨g, 0, none⟩), .agg #[.int .i64 t.kind, .int .i64 t.n, .string t.name, .string t.text, sv, kv]] w
      fun e w' => ∃ h', e = .returned (.int .i64 (out.length : Nat)) ∧ SAt w0 w' g uv E ws (out ++ [t]) mod bad ⟨h', F⟩ ∧ Chg (g :: h.b.toList) w w' ∧ (h' = h.b ∨ ∃ b, h' = some b ∧ w.heap.size ≤ b) := by
  obtain ⟨i0, hi, hz0, hz1, hz2⟩ := info_parts Tryz.infoTerm
  obtain ⟨A1, n1, c1, rfl⟩ : ∃ A n c, sv = .slice A n c := by
    obtain ⟨_, hs⟩ := ht.set
    obtain ⟨A, c, h1, _⟩ := hs.form
    exact ⟨A, _, c, h1⟩
  obtain ⟨A2, n2, c2, rfl⟩ : ∃ A n c, kv = .slice A n c := by
    obtain ⟨_, hs, _⟩ := ht.kids
    obtain ⟨A, c, h1, _⟩ := hs.form
    exact ⟨A, _, c, h1⟩
  obtain ⟨tk, tn, tm, tx, ts, tl⟩ := t
  have hW : ∃ W1 X, w.alloc (.cells #[.int .i64 tk, .int .i64 tn, .string tm, .string tx, .slice A1 n1 c1, .slice A2 n2 c2] 57) = W1 ∧ w.heap.size = X ∧ Blk W1 X 57 #[.int .i64 tk, .int .i64 tn, .string tm, .string tx, .slice A1 n1 c1, .slice A2 n2 c2] ∧ Below w.heap.size w W1 :=
    ⟨_, _, rfl, rfl, Blk.new _ _ _, (Below.refl _ _).alloc (Nat.le_refl _) _⟩
  obtain ⟨W1, X, hW1, hX, qX, hbW⟩ := hW
  have s1 := s.below hbW
  have HFL := Lib.hid (fun b hb => Nat.lt_of_lt_of_le (hFl b hb) hbW.size)
  have HF := Lib.hid hF
  clear hF hFl
  have ht1 := ht.keep (fun b e cs hB _ => hbW.block b hB.lt)
  have HBW := Lib.hid hbW
  have HT1 := Lib.hid ht1
  have HS1 := Lib.hid s1
  obtain ⟨wv, fv, xs, pre, hg, hww, hs, hx⟩ := s1.rd
  have hgX : g < W1.heap.size := hg.lt
  have HX := Lib.hid hx
  have HHS := Lib.hid hs
  have HGH := Lib.hid (show g ∉ h.b.toList by have := s1.ne; simpa using this)
  have HN := Lib.hid hn
  obtain ⟨A, cap, rfl, _, _⟩ := hs.form
  have e2 : W1.cell? ⟨g, 2, none⟩ = some (.slice A out.length cap) := hg.cell 2
  have e3 : W1.frozen? ⟨g, 2, none⟩ = false := hg.frozen 2
  have x0 : W1.cell? ⟨X, 0, none⟩ = some (.int .i64 tk) := qX.cell 0
  have x1 : W1.cell? ⟨X, 1, none⟩ = some (.int .i64 tn) := qX.cell 1
  have x2 : W1.cell? ⟨X, 2, none⟩ = some (.string tm) := qX.cell 2
  have x3 : W1.cell? ⟨X, 3, none⟩ = some (.string tx) := qX.cell 3
  have x4 : W1.cell? ⟨X, 4, none⟩ = some (.slice A1 n1 c1) := qX.cell 4
  have x5 : W1.cell? ⟨X, 5, none⟩ = some (.slice A2 n2 c2) := qX.cell 5
  have hXl := qX.lt
  have HG := Lib.hid hg
  clear s s1 ht ht1 hbW hg hww hs hx hn qX
  generalize hNe : out.length = N at e2 HN HHS HG ⊢
  have HNE := Lib.hid hNe
  clear hNe
  go_enter Tryz.func29, Tryz.ntmps29
  go_upto_region 1 with (fail)
  have hn := HN.out
  go_region_law (refine step_append_sl _ (by rfl) (.tmp 9) (.tmp 11) _ (by rfl) Tryz.underlying27 hi hz0 hz1 hz2 rfl (by omega) ((HHS.out.alloc _).heap (by rfl)) (by simp [Act.eval]) W1.heap.size #[.int .i64 tk, .int .i64 tn, .string tm, .string tx, .slice A1 n1 c1, .slice A2 n2 c2] (e' := 57) (fr := (0, 0)) (heap_alloc_new W1 _) 1 1 (by simp [Act.eval]) (by rfl) (by simp [Value.oneCell']) (by unfold maxLen; omega) (by omega) ?_; intro v2 h2 w2 hs2 hc2 ho2; obtain ⟨A3, cap3, rfl, _, _⟩ := hs2.form; have hf2 : w2.frozen? ⟨g, 2, none⟩ = false := (hc2.frozen (p := ⟨g, 2, none⟩) (by simp; omega) HGH.out).trans ((World.frozen?_alloc_past _ _ _ hgX).trans e3); have hf3 : w2.cell? ⟨g, 2, none⟩ = some (.slice A N cap) := (hc2.cell (p := ⟨g, 2, none⟩) (by simp; omega) HGH.out).trans ((World.cell?_alloc_past _ _ _ hgX).trans e2))
  all_goals
    have hks := (HS1.out.push (w' := w2) (hb' := h2) HF.out HFL.out HT1.out HX.out (.cells #[.int .i64 tk, .int .i64 tn, .string tm, .string tx, .slice A1 n1 c1, .slice A2 n2 c2] 57) (v' := .slice A3 (N + 1) cap3) (by rw [HNE.out]; exact hs2) ⟨hc2.os, hc2.tape, hc2.output, hc2.size, hc2.block⟩ ho2)
    have f2 : (w2.setCell ⟨g, 2, none⟩ (.slice A3 (N + 1) cap3)).cell? ⟨g, 2, none⟩ = some (.slice A3 (N + 1) cap3) := by
      have hB : Blk w2 g 67 _ := (HG.out.alloc _).chg ⟨hc2.os, hc2.tape, hc2.output, hc2.size, hc2.block⟩ HGH.out
      rw [(hB.set 2 _).cell 2]
      rfl
    have HKS := Lib.hid hks
    clear hks hs2 hc2 ho2 hf2 hf3
    generalize w2.setCell ⟨g, 2, none⟩ (.slice A3 (N + 1) cap3) = w3 at HKS f2 ⊢
    go_wp2
    go_ret
    refine ⟨h2, rfl, HKS.out.1, (Chg.of_below HBW.out (g :: h.b.toList)).trans HKS.out.2.1 fun i hi => .inl hi, ?_⟩
    rcases HKS.out.2.2 with h1 | ⟨b, h1, h3⟩
    · exact .inl h1
    · exact .inr ⟨b, h1, Nat.le_trans HBW.out.size h3⟩

/-- A term whose kids lie in a block of its own (or nowhere). -/
theorem add_anyS (k0 : SSt w0 wS w g uv E h0 ws out mod bad h) (t : Tm) (sv kv : Value) (hk : Option Nat) (hset : ∃ o, Sl w 75 2 sv o t.set.length (flatR t.set)) (hks : Sl w 3 1 kv hk t.kids.length (intC t.kids)) (hown : ∀ b, hk = some b → wS.heap.size ≤ b) (hn : out.length ≤ 1099511627776) :
    Calls Tryz.prog 29 #[.pointer (some ⟨g, 0, none⟩), .agg #[.int .i64 t.kind, .int .i64 t.n, .string t.name, .string t.text, sv, kv]] w
      fun e w' => ∃ h', e = .returned (.int .i64 (out.length : Nat)) ∧ SSt w0 wS w' g uv E h0 ws (out ++ [t]) mod bad h' := by
  refine (addF_anyS k0.at_ t sv kv (F := fun b => h.f b ∨ hk = some b) (fun _ h => .inl h) (fun b hb => hb.elim (k0.at_.fl b) fun e => hks.lt b e) ⟨hset, ⟨hk, hks, fun b hb => .inr hb⟩⟩ hn).mono ?_
  rintro e w' ⟨h', rfl, p1, p2, p3⟩
  exact ⟨_, rfl, k0.putting p1 p2 p3 fun b hb => hb.elim .inl fun e => .inr (hown b e)⟩
theorem addN_anyS (k0 : SSt w0 wS w g uv E h0 ws out mod bad h) (t : Tm) (h1 : t.set = []) (h2 : t.kids = []) (hn : out.length ≤ 1099511627776) :
    Calls Tryz.prog 29 #[.pointer (some ⟨g, 0, none⟩), .agg #[.int .i64 t.kind, .int .i64 t.n, .string t.name, .string t.text, .slice none 0 0, .slice none 0 0]] w
      fun e w' => ∃ h', e = .returned (.int .i64 (out.length : Nat)) ∧ SSt w0 wS w' g uv E h0 ws (out ++ [t]) mod bad h' := by
  refine add_anyS k0 t _ _ none ⟨none, ?_⟩ ?_ (by simp) hn
  · rw [h1]
    exact Sl.nil _ _ _
  · rw [h2]
    exact Sl.nil _ _ _

set_option maxRecDepth 100000 in
theorem not_anyS (k0 : SSt w0 wS w g uv E h0 ws out mod bad h) (k : Int) (hn : out.length ≤ 1099511627776) :
    Calls Tryz.prog 49 #[.pointer (some ⟨g, 0, none⟩), .int .i64 k] w
      fun e w' => ∃ h', e = .returned (.int .i64 (out.length : Nat)) ∧ SSt w0 wS w' g uv E h0 ws (out ++ [tmK 3 [k]]) mod bad h' := by
  have hb1 := (Below.refl w.heap.size w).alloc (Nat.le_refl _) (.cells #[.int .i64 k] 3)
  have hp := add_anyS (k0.below hb1) (tmK 3 [k]) (.slice none 0 0) (.slice (some ⟨w.heap.size, 0, none⟩) 1 1) (some w.heap.size) ⟨none, Sl.nil _ _ _⟩ (Sl.lit _ _ [.int .i64 k] 1 rfl (by decide)) (by rintro b ⟨rfl⟩; exact k0.chg.size) hn
  have hp : Calls Tryz.prog 29 #[.pointer (some ⟨g, 0, none⟩), .agg #[.int .i64 3, .int .i64 0, .string ⟨#[]⟩, .string ⟨#[]⟩, .slice none 0 0, .slice (some ⟨w.heap.size, 0, none⟩) 1 1]] _ _ := hp
  have HP := Lib.hid hp
  clear hp hb1 k0 hn
  go_enter Tryz.func49, Tryz.ntmps49
  go_wp2_with (first
    | (go_at_call 29; refine HP.out.mono ?_; rintro e w2 ⟨h', rfl, hks⟩; have HKS := Lib.hid hks; clear hks)
    | fail)
  go_ret
  exact ⟨_, rfl, HKS.out⟩
end

end Go.Proofs.YtnfabgbidkddhaaGreatDoor
