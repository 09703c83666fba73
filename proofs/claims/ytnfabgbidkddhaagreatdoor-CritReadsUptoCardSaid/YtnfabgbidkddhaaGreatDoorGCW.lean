/-
  A slice of words that came in: it reads so, however deep; there are no more of them than its bulk.
  An email that came in: its keywords and its places read so.
-/
import Derived.Test.YtnfabgbidkddhaaGreatDoorGRB
import Derived.Test.YtnfabgbidkddhaaGreatDoorLawM
import Derived.Test.YtnfabgbidkddhaaGreatDoorHoldPM
import Derived.Test.YtnfabgbidkddhaaGreatDoorGCF
import Derived.ProofKit
import Derived.Deep.SlicePairs
namespace Go.Proofs.YtnfabgbidkddhaaGreatDoor
open Go.ChangeShapes Go.WideShapes Go.ChangeAt Go.RowKit

theorem spotNoneW {w : World} {a : Addr} {u : Value} (h : w.cell? (a.add 0) = some u) : a.spot = none := by
  have e : a.add 0 = a := by unfold Addr.add; simp
  rw [e] at h
  unfold World.cell? at h
  split at h
  · cases hs : a.spot with
    | none => rfl
    | some q => simp [hs] at h
  · cases h
/-- One after another. -/
theorem list_of_each {α : Type} {Q : Nat → α → Prop} : ∀ (n : Nat), (∀ i, i < n → ∃ y, Q i y) → ∃ l : List α, l.length = n ∧ ∀ i (h : i < l.length), Q i l[i]
  | 0, _ => ⟨[], rfl, fun i h => by simp at h⟩
  | n + 1, h => by
    obtain ⟨l, h1, h2⟩ := list_of_each n (fun i hi => h i (by omega))
    obtain ⟨y, hy⟩ := h n (by omega)
    refine ⟨l ++ [y], by simp [h1], fun i hi => ?_⟩
    by_cases hl : i < l.length
    · rw [List.getElem_append_left hl]
      exact h2 i hl
    · have : i = l.length := by
        rw [List.length_append, List.length_singleton] at hi
        omega
      subst this
      simp only [List.getElem_append_right (Nat.le_refl _), Nat.sub_self, List.getElem_cons_zero]
      rw [h1]
      exact hy

section
variable {H : Type} {enc : TypeId × Value → H} {w : World} {base : Nat} {spare : Nat → Bool} {held : Bool}

/-- The cells of a word that lies there. -/
def encW (p : WT × Value) : List Value := [.int .i64 p.1.kind, .string p.1.text, p.2]
def flatWs (l : List (WT × Value)) : List Value := l.flatMap encW
theorem flatWs_length : ∀ l : List (WT × Value), (flatWs l).length = l.length * 3
  | [] => rfl
  | p :: r => by
    have := flatWs_length r
    simp only [flatWs, List.flatMap_cons, List.length_append, List.length_cons] at this ⊢
    rw [this]
    simp [encW]
    omega
theorem flatWs_get : ∀ (l : List (WT × Value)) (i j : Nat) (h : i < l.length), j < 3 → (flatWs l)[i * 3 + j]? = (encW l[i])[j]?
  | [], i, j, h, _ => by simp at h
  | p :: r, 0, j, _, hj => by
    simp only [flatWs, List.flatMap_cons]
    rw [List.getElem?_append_left (by simp [encW]; omega)]
    simp
  | p :: r, i + 1, j, h, hj => by
    have ih := flatWs_get r i j (by simpa using h) hj
    simp only [flatWs, List.flatMap_cons] at ih ⊢
    rw [List.getElem?_append_right (by simp [encW]; omega)]
    have e : (i + 1) * 3 + j - (encW p).length = i * 3 + j := by simp [encW]; omega
    rw [e, ih]
    simp
theorem cellsAt_flat : ∀ (l : List (WT × Value)), (∀ p ∈ l, WAt w p.1 p.2) → CellsAt w (l.map (·.1)) (flatWs l)
  | [], _ => by
    unfold CellsAt
    rfl
  | p :: r, h => by
    have ih := cellsAt_flat r (fun q hq => h q (by simp [hq]))
    show CellsAt w (p.1 :: r.map (·.1)) (flatWs (p :: r))
    unfold CellsAt
    exact ⟨p.2, flatWs r, rfl, h p (by simp), ih⟩
theorem bulk_sum : ∀ (l : List (WT × Value)) (es : List (DataW H)), l.length = es.length → (∀ i (h : i < l.length) (h' : i < es.length), szW l[i].1 ≤ Rows.uptoBulk es[i]) → szL (l.map (·.1)) ≤ Rows.uptoBulkAll es
  | [], [], _, _ => by simp [szL]
  | [], _ :: _, h, _ => by simp at h
  | _ :: _, [], h, _ => by simp at h
  | p :: r, e :: es, hl, h => by
    have h0 := h 0 (by simp) (by simp)
    have ih := bulk_sum r es (by simpa using hl) (fun i hi hi' => h (i + 1) (by simpa using hi) (by simpa using hi'))
    simp only [List.getElem_cons_zero] at h0
    show szW p.1 + szL (r.map (·.1)) ≤ Rows.uptoBulk e + Rows.uptoBulkAll es
    omega

set_option maxRecDepth 100000 in
theorem words_in : ∀ (fuel : Nat) (v : Value) (x : DataW H × List MemPlace), DataW.trod enc Tryz.prog w base spare held fuel 22 [v] = some x → ∃ ws, WsAt w v ws ∧ szL ws ≤ Rows.uptoBulk x.1 := by
  intro fuel
  induction fuel using Nat.strongRecOn with
  | ind fuel ih =>
    intro v x h
    rcases DataW.trod_slice Tryz.underlying22 h with ⟨hcs, _⟩ | ⟨a, len, cap, elems, rest, n, hfu, hcs, hx, _, hl, hm, hlen, hE, _, _⟩
    · simp at hcs
      subst hcs
      exact ⟨[], WsAt.nil ⟨by simp, .inl ⟨rfl, rfl⟩⟩, by simp [szL]⟩
    · simp at hcs
      subst hcs
      have ce : Tryz.prog.cellsOf 41 = 3 := by kernel_rfl
      have hone : ∀ i, i < len → ∃ p : WT × Value, (∀ j, j < 3 → w.cell? (a.add (i * 3 + j)) = (encW p)[j]?) ∧ WAt w p.1 p.2 ∧ ∀ (he : i < elems.length), szW p.1 ≤ Rows.uptoBulk elems[i].1 := by
        intro i hi
        have h1 := hE i hi
        have hie : i < elems.length := by omega
        rw [List.getElem?_eq_getElem hie, ce, Option.bind_eq_some_iff] at h1
        obtain ⟨cs, h2, h3⟩ := h1
        obtain ⟨_, hcl, hcell⟩ := World.cells?_some h2
        obtain ⟨xs, k, hk, hxy, _, hxl, hf⟩ := DataW.trod_struct Tryz.underlying41 h3
        match cs, hcl with
        | [v0, v1, v2], _ =>
          have g0 := hf 0 _ rfl
          have g1 := hf 1 _ rfl
          have g2 := hf 2 _ rfl
          match xs, hxl with
          | [y0, y1, y2], _ =>
            simp [show Tryz.prog.cellsOf 3 = 1 by kernel_rfl, show Tryz.prog.cellsOf 9 = 1 by kernel_rfl, show Tryz.prog.cellsOf 22 = 1 by kernel_rfl] at g0 g1 g2
            obtain ⟨a0, e0, _, _⟩ := DataW.trod_int Tryz.underlying3 g0
            obtain ⟨b1, e1, _⟩ := DataW.trod_string Tryz.underlying9 g1
            simp at e0 e1
            obtain ⟨ws, hw, hz⟩ := ih k (by omega) v2 y2 g2
            refine ⟨(.mk a0 b1 ws, v2), fun j hj => ?_, ?_, fun _ => ?_⟩
            · have h4 := hcell j hj
              rw [Deep.add_add] at h4
              rw [h4, e0, e1]
              rfl
            · obtain ⟨cs2, c1, c2⟩ := hw
              unfold WAt
              exact ⟨cs2, c1, c2⟩
            · rw [hxy]
              show szW (.mk a0 b1 ws) ≤ Rows.uptoBulk (.agg [y0.1, y1.1, y2.1])
              simp only [szW, Rows.uptoBulk, Rows.uptoBulkAll]
              omega
      obtain ⟨ps, hpl, hps⟩ := list_of_each len hone
      have hpc : (ps.map (·.1)).length = len := by simp [hpl]
      have hcell : ∀ j, j < len * 3 → w.cell? (a.add j) = (flatWs ps)[j]? := fun j hj => by
        have hi : j / 3 < ps.length := by omega
        have h1 := (hps (j / 3) hi).1 (j % 3) (by omega)
        have h2 := flatWs_get ps (j / 3) (j % 3) hi (by omega)
        rw [show j / 3 * 3 + j % 3 = j from by omega] at h1 h2
        rw [h1, h2]
      refine ⟨ps.map (·.1), ⟨flatWs ps, ⟨by rw [flatWs_length, hpc, hpl], .inr ⟨a, cap, by rw [hpc], by rw [hpc]; exact hl, hm, fun hpos => ?_⟩⟩, cellsAt_flat ps fun p hp => ?_⟩, ?_⟩
      · rw [hpc] at hpos ⊢
        have h0 := hcell 0 (by omega)
        have hne : (flatWs ps)[0]? ≠ none := by
          rw [Ne, List.getElem?_eq_none_iff, flatWs_length, hpl]
          omega
        obtain ⟨u, hu⟩ := Option.ne_none_iff_exists'.1 hne
        rw [hu] at h0
        have hspot : a.spot = none := spotNoneW h0
        obtain ⟨b, off, sp⟩ := a
        simp only at hspot
        subst hspot
        have := World.block_lt_of_cell? w _ h0
        rw [Addr.add_lit] at this
        refine ⟨rfl, this, by simp, fun j hj => ?_⟩
        have h3 := hcell j hj
        rw [Addr.add_lit] at h3
        exact h3
      · obtain ⟨i, hi, rfl⟩ := List.getElem_of_mem hp
        exact (hps i hi).2.1
      · rw [hx]
        have h5 := bulk_sum (H := H) ps (elems.map (·.1)) (by rw [hpl, List.length_map, hlen]) (fun i hi hi' => by
          rw [List.getElem_map]
          exact (hps i hi).2.2 (by simpa using hi'))
        simp only [Rows.uptoBulk]
        omega
end

end Go.Proofs.YtnfabgbidkddhaaGreatDoor

namespace Go.Proofs.YtnfabgbidkddhaaGreatDoor
open Go.ChangeShapes Go.WideShapes Go.ChangeAt Go.RowKit

section
variable {H : Type} {enc : TypeId × Value → H} {P : Program} {w : World} {base : Nat} {spare : Nat → Bool} {held : Bool}

/-- A slice of elements of so many cells. -/
theorem groups_inW {α : Type} [Inhabited α] (encA : α → List Value) (Q : α → Prop) {size : Nat} (hpos : 0 < size) (hA : ∀ a, (encA a).length = size) {t e : TypeId} (ht : P.underlying t = some (.slice e)) (ce : P.cellsOf e = size)
    (hdec : ∀ (n : Nat) (cs : List Value) (x : DataW H × List MemPlace), cs.length = size → DataW.trod enc P w base spare held n e cs = some x → ∃ y, cs = encA y ∧ Q y)
    {fuel : Nat} {v : Value} {x : DataW H × List MemPlace} (h : DataW.trod enc P w base spare held fuel t [v] = some x) : ∃ (l : List α), RdS w [] size v l.length (flatG encA l) ∧ ∀ y ∈ l, Q y := by
  rcases Deep.open_slice ht h with ⟨hcs, _⟩ | ⟨a, len, cap, m, n, D, Pl, hcs, _, hl, hm, hmm, _, hx⟩
  · simp at hcs
    subst hcs
    exact ⟨[], ⟨by simp [flatG], .inl ⟨rfl, rfl⟩⟩, by simp⟩
  · simp at hcs
    subst hcs
    have hle : len ≤ m := by
      rw [hmm]
      split <;> omega
    have hb : ∀ i, i < len → ∃ y : α, (∀ j, j < size → w.cell? (a.add (i * size + j)) = (encA y)[j]?) ∧ Q y := fun i hi => by
      obtain ⟨cs, h1, h2⟩ := hx i (by omega)
      rw [ce] at h1
      obtain ⟨_, hlen, hcell⟩ := World.cells?_some h1
      obtain ⟨y, rfl, hq⟩ := hdec n cs _ hlen h2
      refine ⟨y, fun j hj => ?_, hq⟩
      have h3 := hcell j hj
      rw [Deep.add_add] at h3
      exact h3
    let f : Nat → α := fun i => if hi : i < len then (hb i hi).choose else default
    have hf : ∀ i (hi : i < len), f i = (hb i hi).choose := fun i hi => by simp only [f, dif_pos hi]
    have hlen : ((List.range len).map f).length = len := by simp
    refine ⟨(List.range len).map f, ⟨by rw [flatG_length hA], .inr ⟨a, cap, by rw [hlen], by rw [hlen]; exact hl, hm, fun hp => ?_⟩⟩, fun y hy => ?_⟩
    · rw [hlen] at hp ⊢
      have hcell : ∀ j, j < len * size → w.cell? (a.add j) = (flatG encA ((List.range len).map f))[j]? := fun j hj => by
        have hi : j / size < len := (Nat.div_lt_iff_lt_mul hpos).2 hj
        have hm2 : j % size < size := Nat.mod_lt _ hpos
        have h1 := (hb (j / size) hi).choose_spec.1 (j % size) hm2
        have h2 := flatG_get hA ((List.range len).map f) (j / size) (j % size) (by rw [hlen]; exact hi) hm2
        have h3 : j / size * size + j % size = j := by
          rw [Nat.mul_comm]
          exact Nat.div_add_mod j size
        rw [h3] at h1 h2
        rw [h1, h2]
        simp only [List.getElem_map, List.getElem_range]
        rw [← hf _ hi]
      have hls : 0 < len * size := Nat.mul_pos hp hpos
      have h0 := hcell 0 hls
      have hne : (flatG encA ((List.range len).map f))[0]? ≠ none := by
        rw [Ne, List.getElem?_eq_none_iff, flatG_length hA, hlen]
        omega
      obtain ⟨u, hu⟩ := Option.ne_none_iff_exists'.1 hne
      rw [hu] at h0
      have hspot : a.spot = none := spotNoneW h0
      obtain ⟨b, off, sp⟩ := a
      simp only at hspot
      subst hspot
      have := World.block_lt_of_cell? w _ h0
      rw [Addr.add_lit] at this
      refine ⟨rfl, this, by simp, fun j hj => ?_⟩
      have h3 := hcell j hj
      rw [Addr.add_lit] at h3
      exact h3
    · obtain ⟨i, hi, rfl⟩ := List.mem_map.1 hy
      have hi' := List.mem_range.1 hi
      rw [hf i hi']
      exact (hb i hi').choose_spec.2
theorem flatG_mapW {α : Type} (f : α → Value) (l : List α) : flatG (fun a => [f a]) l = l.map f := by
  induction l with
  | nil => rfl
  | cons a r ih =>
    rw [flatG_cons, ih]
    rfl
theorem strs_inW {t e : TypeId} (ht : P.underlying t = some (.slice e)) (he : P.underlying e = some .string) (ce : P.cellsOf e = 1) {fuel : Nat} {v : Value} {x : DataW H × List MemPlace} (h : DataW.trod enc P w base spare held fuel t [v] = some x) : ∃ l : List ByteArray, RdS w [] 1 v l.length (keysV l) := by
  obtain ⟨l, h1, _⟩ := groups_inW (P := P) (enc := enc) (fun b : ByteArray => [Value.string b]) (fun _ => True) (size := 1) (by omega) (fun _ => rfl) ht ce (fun n cs x hl hx => by
    match cs, hl with
    | [v0], _ =>
      obtain ⟨b, h1, _⟩ := DataW.trod_string he hx
      simp at h1
      exact ⟨b, by rw [h1], trivial⟩) h
  rw [flatG_mapW] at h1
  exact ⟨l, h1⟩
theorem ints_inW {t e : TypeId} (ht : P.underlying t = some (.slice e)) (he : P.underlying e = some (.int .i64)) (ce : P.cellsOf e = 1) {fuel : Nat} {v : Value} {x : DataW H × List MemPlace} (h : DataW.trod enc P w base spare held fuel t [v] = some x) : ∃ l : List Int, RdS w [] 1 v l.length (intC l) := by
  obtain ⟨l, h1, _⟩ := groups_inW (P := P) (enc := enc) (fun b : Int => [Value.int .i64 b]) (fun _ => True) (size := 1) (by omega) (fun _ => rfl) ht ce (fun n cs x hl hx => by
    match cs, hl with
    | [v0], _ =>
      obtain ⟨b, h1, _⟩ := DataW.trod_int he hx
      simp at h1
      exact ⟨b, by rw [h1], trivial⟩) h
  rw [flatG_mapW] at h1
  exact ⟨l, h1⟩
theorem rgs_inW {t e : TypeId} {f0 f1 : Field} (ht : P.underlying t = some (.slice e)) (he : P.underlying e = some (.struct #[f0, f1])) (ce : P.cellsOf e = 2) (o : (f0.offset = 0 ∧ f1.offset = 1) ∧ P.cellsOf f0.type = 1 ∧ P.cellsOf f1.type = 1)
    (u0 : P.underlying f0.type = some (.int .i64)) (u1 : P.underlying f1.type = some (.int .i64)) {fuel : Nat} {v : Value} {x : DataW H × List MemPlace} (h : DataW.trod enc P w base spare held fuel t [v] = some x) : ∃ l : List Rg, RdS w [] 2 v l.length (flatR l) := by
  obtain ⟨⟨o0, o1⟩, c0, c1⟩ := o
  obtain ⟨l, h1, _⟩ := groups_inW (P := P) (enc := enc) (fun p : Rg => [Value.int .i64 p.1, Value.int .i64 p.2]) (fun _ => True) (size := 2) (by omega) (fun _ => rfl) ht ce (fun n cs x hl hx => by
    obtain ⟨xs, k, hk, hxy, _, hxl, hf⟩ := DataW.trod_struct he hx
    match cs, hl with
    | [v0, v1], _ =>
      have g0 := hf 0 f0 rfl
      have g1 := hf 1 f1 rfl
      match xs, hxl with
      | [y0, y1], _ =>
        simp [o0, o1, c0, c1] at g0 g1
        obtain ⟨a0, e0, _, _⟩ := DataW.trod_int u0 g0
        obtain ⟨a1, e1, _, _⟩ := DataW.trod_int u1 g1
        simp at e0 e1
        exact ⟨(a0, a1), by rw [e0, e1], trivial⟩) h
  exact ⟨l, h1⟩
end

section
variable {H : Type} {enc : TypeId × Value → H} {w : World} {base : Nat} {spare : Nat → Bool} {held : Bool}

set_option maxRecDepth 100000 in
theorem mail_in {fuel : Nat} {cs : Array Value} {x : DataW H × List MemPlace} (hs : cs.size = Tryz.prog.cellsOf 39) (h : DataW.trod enc Tryz.prog w base spare held fuel 39 cs.toList = some x) :
    ∃ (e : Em) (id th born : Int) (kv mv : Value), cs = #[.int .i64 id, .int .i64 th, .string ⟨e.text.toArray⟩, .int .i64 e.sec, kv, mv, .int .i64 e.mod, .int .i64 born] ∧ RdS w [] 1 kv e.keys.length (keysV e.keys) ∧ RdS w [] 2 mv e.mem.length (flatR e.mem) := by
  have h8 : Tryz.prog.cellsOf 39 = 8 := by kernel_rfl
  obtain ⟨xs, k, hk, hxy, _, hxl, hf⟩ := DataW.trod_struct Tryz.underlying39 h
  have hlen : cs.toList.length = 8 := by rw [Array.length_toList, hs, h8]
  obtain ⟨l, hl⟩ : ∃ l, cs.toList = l := ⟨_, rfl⟩
  rw [hl] at hf hlen
  have hcs : cs = l.toArray := by rw [← hl]
  match l, hlen with
  | [v0, v1, v2, v3, v4, v5, v6, v7], _ =>
    have g0 := hf 0 _ rfl
    have g1 := hf 1 _ rfl
    have g2 := hf 2 _ rfl
    have g3 := hf 3 _ rfl
    have g4 := hf 4 _ rfl
    have g5 := hf 5 _ rfl
    have g6 := hf 6 _ rfl
    have g7 := hf 7 _ rfl
    match xs, hxl with
    | [y0, y1, y2, y3, y4, y5, y6, y7], _ =>
      simp [show Tryz.prog.cellsOf 3 = 1 by kernel_rfl, show Tryz.prog.cellsOf 9 = 1 by kernel_rfl, show Tryz.prog.cellsOf 36 = 1 by kernel_rfl, show Tryz.prog.cellsOf 37 = 1 by kernel_rfl] at g0 g1 g2 g3 g4 g5 g6 g7
      obtain ⟨a0, e0, _, _⟩ := DataW.trod_int Tryz.underlying3 g0
      obtain ⟨a1, e1, _, _⟩ := DataW.trod_int Tryz.underlying3 g1
      obtain ⟨b2, e2, _⟩ := DataW.trod_string Tryz.underlying9 g2
      obtain ⟨a3, e3, _, _⟩ := DataW.trod_int Tryz.underlying3 g3
      obtain ⟨a6, e6, _, _⟩ := DataW.trod_int Tryz.underlying3 g6
      obtain ⟨a7, e7, _, _⟩ := DataW.trod_int Tryz.underlying3 g7
      simp at e0 e1 e2 e3 e6 e7
      obtain ⟨kl, hkl⟩ := strs_inW Tryz.underlying36 Tryz.underlying9 (by kernel_rfl) g4
      obtain ⟨ml, hml⟩ := rgs_inW Tryz.underlying37 Tryz.underlying49 (by kernel_rfl) ⟨⟨rfl, rfl⟩, by kernel_rfl, by kernel_rfl⟩ Tryz.underlying3 Tryz.underlying3 g5
      refine ⟨⟨a3, a6, b2.data.toList, kl, ml⟩, a0, a1, a7, v4, v5, ?_, hkl, hml⟩
      rw [hcs, e0, e1, e2, e3, e6, e7]
end

end Go.Proofs.YtnfabgbidkddhaaGreatDoor
