/-
  The walks of crit's put, over, word, number.
-/
import Derived.Test.YtnfabgbidkddhaaGreatDoorCritAtM
import Derived.Deep.RegionLaw
import Derived.Deep.RegionHeld3
import Derived.Deep.DrawnRows
import Derived.Deep.DeepCutAuto
namespace Go.Proofs.YtnfabgbidkddhaaGreatDoor
open Go.RowKit
attribute [local go_sem ↓] Go.wp_at_zero Go.wp_at_succ

theorem Tryz.infoTerm : (Tryz.prog.info? 57).map (fun i => (i.zero, i.size, i.bytes)) = some (some (.agg #[.int .i64 0, .int .i64 0, .string ⟨#[]⟩, .string ⟨#[]⟩, .slice none 0 0, .slice none 0 0]), 6, 96) := by kernel_rfl

section
variable {w0 w w' : World} {g ob mb : Nat} {uv : Value} {E : CEnv} {ws : List WT} {out : Out} {mod : Bool} {h : Hn}

set_option maxRecDepth 100000 in
set_option maxHeartbeats 2000000 in
theorem putF_anyC (s : RAt w0 w g ob mb uv E ws out mod h) (t : Tm) (sv kv : Value) {F : Nat → Prop} (hF : ∀ b, h.f b → F b) (hFl : ∀ b, F b → b < w.heap.size) (ht : TmOk w F t sv kv) (hn : out.length ≤ 1099511627776) :
    Calls Tryz.prog 45 #[.pointer (some ⟨g, 0, none⟩), .agg #[.int .i64 t.kind, .int .i64 t.n, .string t.name, .string t.text, sv, kv]] w
      fun e w' => ∃ h', e = .returned (.int .i64 (out.length : Nat)) ∧ PutSt w0 w w' g ob mb uv E h ws (out ++ [t]) mod h' F := by
  obtain ⟨i0, hi, hz0, hz1, hz2⟩ := info_parts Tryz.infoTerm
  obtain ⟨A1, n1, c1, rfl⟩ : ∃ A n c, sv = .slice A n c := by
    obtain ⟨_, hs⟩ := ht.set
    obtain ⟨A, c, h1, _⟩ := hs.form
    exact ⟨A, _, c, h1⟩
  obtain ⟨A2, n2, c2, rfl⟩ : ∃ A n c, kv = .slice A n c := by
    obtain ⟨_, hs, _⟩ := ht.kids
    obtain ⟨A, c, h1, _⟩ := hs.form
    exact ⟨A, _, c, h1⟩
  obtain ⟨tk, tn, tm, tx, ts, tl⟩ := t
  have hW : ∃ W1 X, w.alloc (.cells #[.int .i64 tk, .int .i64 tn, .string tm, .string tx, .slice A1 n1 c1, .slice A2 n2 c2] 57) = W1 ∧ w.heap.size = X ∧ Blk W1 X 57 #[.int .i64 tk, .int .i64 tn, .string tm, .string tx, .slice A1 n1 c1, .slice A2 n2 c2] ∧ Below w.heap.size w W1 :=
    ⟨_, _, rfl, rfl, Blk.new _ _ _, (Below.refl _ _).alloc (Nat.le_refl _) _⟩
  obtain ⟨W1, X, hW1, hX, qX, hbW⟩ := hW
  have s1 := s.below hbW
  have HFL := Lib.hid (fun b hb => Nat.lt_of_lt_of_le (hFl b hb) hbW.size)
  have HF := Lib.hid hF
  clear hF hFl
  have ht1 := ht.keep (fun b e cs hB _ => hbW.block b hB.lt)
  have HBW := Lib.hid hbW
  have HT1 := Lib.hid ht1
  have HS1 := Lib.hid s1
  obtain ⟨wv, hg, hww⟩ := s1.rd
  obtain ⟨ov, xs, hob, hs, hx⟩ := s1.ou
  have hgX : g < W1.heap.size := hg.lt
  have hobX : ob < W1.heap.size := hob.lt
  have HX := Lib.hid hx
  have HHS := Lib.hid hs
  have hobh : h.b ≠ some ob := s1.ne.2.2.2.2.1
  have HGH := Lib.hid (show g ∉ h.b.toList by have := s1.ne.2.2.2.1; simpa using this)
  have HOB := Lib.hid hobh
  have HN := Lib.hid hn
  obtain ⟨A, cap, rfl, _, _⟩ := hs.form
  have e1 : W1.cell? ⟨g, 3, none⟩ = some (.pointer (some ⟨ob, 0, none⟩)) := hg.cell 3
  have e2 : W1.cell? ⟨ob, 0, none⟩ = some (.slice A out.length cap) := hob.cell 0
  have e3 : W1.frozen? ⟨ob, 0, none⟩ = false := hob.frozen 0
  have x0 : W1.cell? ⟨X, 0, none⟩ = some (.int .i64 tk) := qX.cell 0
  have x1 : W1.cell? ⟨X, 1, none⟩ = some (.int .i64 tn) := qX.cell 1
  have x2 : W1.cell? ⟨X, 2, none⟩ = some (.string tm) := qX.cell 2
  have x3 : W1.cell? ⟨X, 3, none⟩ = some (.string tx) := qX.cell 3
  have x4 : W1.cell? ⟨X, 4, none⟩ = some (.slice A1 n1 c1) := qX.cell 4
  have x5 : W1.cell? ⟨X, 5, none⟩ = some (.slice A2 n2 c2) := qX.cell 5
  have hXl := qX.lt
  clear s s1 ht ht1 hbW hg hww hob hs hx hobh hn qX
  generalize hNe : out.length = N at e2 HN HHS ⊢
  have HNE := Lib.hid hNe
  clear hNe
  go_enter Tryz.func45, Tryz.ntmps45
  go_upto_region 1 with (fail)
  have hn := HN.out
  have hoh : ob ∉ h.b.toList := by
    have := HOB.out
    simpa using this
  have HOH := Lib.hid hoh
  clear hoh
  go_region_law (refine step_append_sl _ (by rfl) (.tmp 14) (.tmp 16) _ (by rfl) Tryz.underlying27 hi hz0 hz1 hz2 rfl (by omega) ((HHS.out.alloc _).heap (by rfl)) (by simp [Act.eval]) W1.heap.size #[.int .i64 tk, .int .i64 tn, .string tm, .string tx, .slice A1 n1 c1, .slice A2 n2 c2] (e' := 57) (fr := (0, 0)) (heap_alloc_new W1 _) 1 1 (by simp [Act.eval]) (by rfl) (by simp [Value.oneCell']) (by unfold maxLen; omega) (by omega) ?_; intro v2 h2 w2 hs2 hc2 ho2; obtain ⟨A3, cap3, rfl, _, _⟩ := hs2.form; have hf2 : w2.frozen? ⟨ob, 0, none⟩ = false := (hc2.frozen (p := ⟨ob, 0, none⟩) (by simp; omega) HOH.out).trans ((World.frozen?_alloc_past _ _ _ hobX).trans e3); have hf3 : w2.cell? ⟨ob, 0, none⟩ = some (.slice A N cap) := (hc2.cell (p := ⟨ob, 0, none⟩) (by simp; omega) HOH.out).trans ((World.cell?_alloc_past _ _ _ hobX).trans e2); have hf4 : w2.cell? ⟨g, 3, none⟩ = some (.pointer (some ⟨ob, 0, none⟩)) := (hc2.cell (p := ⟨g, 3, none⟩) (by simp; omega) HGH.out).trans ((World.cell?_alloc_past _ _ _ hgX).trans e1))
  all_goals
    have hks := (HS1.out.push (w' := w2) (hb' := h2) HF.out HFL.out HT1.out HX.out (.cells #[.int .i64 tk, .int .i64 tn, .string tm, .string tx, .slice A1 n1 c1, .slice A2 n2 c2] 57) (v' := .slice A3 (N + 1) cap3) (by rw [HNE.out]; exact hs2) ⟨hc2.os, hc2.tape, hc2.output, hc2.size, hc2.block⟩ ho2).after HBW.out
    have hB : Blk w2 ob 27 #[.slice A N cap] := by
      obtain ⟨ov, xs0, hob, _⟩ := HS1.out.ou
      have h0 : ov = .slice A N cap := by
        have := (hob.cell 0).symm.trans e2
        simpa using this
      rw [h0] at hob
      exact (hob.alloc _).chg ⟨hc2.os, hc2.tape, hc2.output, hc2.size, hc2.block⟩ HOH.out
    have f2 : (w2.setCell ⟨ob, 0, none⟩ (.slice A3 (N + 1) cap3)).cell? ⟨ob, 0, none⟩ = some (.slice A3 (N + 1) cap3) := by
      rw [(hB.set 0 _).cell 0]
      rfl
    have f1 : (w2.setCell ⟨ob, 0, none⟩ (.slice A3 (N + 1) cap3)).cell? ⟨g, 3, none⟩ = some (.pointer (some ⟨ob, 0, none⟩)) := by
      obtain ⟨wv, hg, _⟩ := hks.at_.rd
      exact hg.cell 3
    have HKS := Lib.hid hks
    clear hks hB hs2 hc2 ho2 hf2 hf3 hf4
    generalize w2.setCell ⟨ob, 0, none⟩ (.slice A3 (N + 1) cap3) = w3 at HKS f1 f2 ⊢
    go_wp2
    go_ret
    exact ⟨h2, rfl, HKS.out⟩

theorem put_anyC (s : RAt w0 w g ob mb uv E ws out mod h) (t : Tm) (sv kv : Value) (ht : TmOk w h.f t sv kv) (hn : out.length ≤ 1099511627776) :
    Calls Tryz.prog 45 #[.pointer (some ⟨g, 0, none⟩), .agg #[.int .i64 t.kind, .int .i64 t.n, .string t.name, .string t.text, sv, kv]] w
      fun e w' => ∃ h', e = .returned (.int .i64 (out.length : Nat)) ∧ KSt w0 w w' g ob mb uv E h ws (out ++ [t]) mod h' := by
  refine (putF_anyC s t sv kv (fun _ h => h) s.fl ht hn).mono ?_
  rintro e w' ⟨h', rfl, hp⟩
  exact ⟨_, rfl, s.refl.putting hp fun b hb => .inl hb⟩
end

end Go.Proofs.YtnfabgbidkddhaaGreatDoor
