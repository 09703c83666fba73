/-
  Elements of k cells each laid in a row, whatever they are: the general words of a list in memory.
  Small laws of what is below, for the seat of law 23 (as the store's Spent has them).
  A range over a function whose iterator keeps its state in a cell of its own (block B, laid ahead of the loop): the caller's law, out of the kit's laws of the statement and of the round. The caller's word abides a store into that cell.
  Headers in plain words: lines, gathered lines, fields, the first of a name. No program in sight.
  strings.Cut at a separator of one byte: no variable of the library is read.
  strings.Cut at a colon and strings.Trim of blanks and tabs, at this program.
  The walk of field.one: the field that a text is.
  The walk of field.lines and of the iterator that it hands back.
-/
import Derived.Test.YtnfabgbidkddhaaGreatDoorGCB
import Derived.Test.YtnfabgbidkddhaaGreatDoorGRF
import Derived.Test.YtnfabgbidkddhaaGreatDoorGCA
import Derived.RangeFuncFrom
import Derived.Lib.SlTrimSet
import Derived.Lib.IndexMore
import Derived.Shelf.Strings.Cut
import Derived.Lib.IndexBytes
import Derived.Test.YtnfabgbidkddhaaGreatDoorShelf
import Derived.Shelf.Strings.SlTrimAscii
import Derived.Shelf.Lay
import Derived.Ground.NamesProg
import Derived.RangeFuncNested
import Derived.RangeFuncBound
import Derived.RangeFuncCalls
import Derived.RangeFuncLeaves
import Derived.Shelf.Abstract
import Derived.Shelf.RegionOpen
import Derived.OwnWalkIn
import Derived.TacticsInMore
import Derived.LoopNIn
import Derived.LoopIn
namespace Go.Proofs.YtnfabgbidkddhaaGreatDoor
open Go.RowKit

section
variable {α : Type} {k : Nat} {enc : α → List Value}

def flatG (enc : α → List Value) (l : List α) : List Value := l.flatMap enc

theorem flatG_nil (enc : α → List Value) : flatG enc [] = [] := rfl
theorem flatG_cons (x : α) (l : List α) : flatG enc (x :: l) = enc x ++ flatG enc l := by simp [flatG]
theorem flatG_append (a b : List α) : flatG enc (a ++ b) = flatG enc a ++ flatG enc b := by simp [flatG]
theorem flatG_snoc (a : List α) (x : α) : flatG enc (a ++ [x]) = flatG enc a ++ enc x := by simp [flatG]
theorem flatG_length (he : ∀ x, (enc x).length = k) : ∀ l : List α, (flatG enc l).length = l.length * k
  | [] => by simp [flatG]
  | x :: l => by
    rw [flatG_cons, List.length_append, flatG_length he l, List.length_cons, he, Nat.add_mul, Nat.one_mul, Nat.add_comm]
theorem flatG_get (he : ∀ x, (enc x).length = k) : ∀ (l : List α) (i j : Nat) (hi : i < l.length), j < k → (flatG enc l)[i * k + j]? = (enc l[i])[j]?
  | x :: l, 0, j, _, hj => by
    rw [flatG_cons, Nat.zero_mul, Nat.zero_add, List.getElem?_append_left (by rw [he]; exact hj)]
    rfl
  | x :: l, i + 1, j, hi, hj => by
    rw [flatG_cons, List.getElem?_append_right (by rw [he, Nat.add_mul]; omega)]
    have : (i + 1) * k + j - (enc x).length = i * k + j := by rw [he, Nat.add_mul]; omega
    rw [this, flatG_get he l i j (by simpa using hi) hj]
    rfl
theorem flatG_drop (he : ∀ x, (enc x).length = k) (l : List α) (i : Nat) : (flatG enc l).drop (i * k) = flatG enc (l.drop i) := by
  induction i generalizing l with
  | zero => simp
  | succ i ih =>
    cases l with
    | nil => simp [flatG]
    | cons x l =>
      rw [flatG_cons, List.drop_succ_cons, ← ih l, show (i + 1) * k = (enc x).length + i * k from by rw [he, Nat.add_mul]; omega, List.drop_append, Nat.add_sub_cancel_left, List.drop_of_length_le (Nat.le_add_right _ _), List.nil_append]
theorem flatG_take (he : ∀ x, (enc x).length = k) (l : List α) (i : Nat) : (flatG enc l).take (i * k) = flatG enc (l.take i) := by
  induction i generalizing l with
  | zero => simp [flatG]
  | succ i ih =>
    cases l with
    | nil => simp [flatG]
    | cons x l =>
      rw [flatG_cons, List.take_succ_cons, flatG_cons, ← ih l, show (i + 1) * k = (enc x).length + i * k from by rw [he, Nat.add_mul]; omega, List.take_append, Nat.add_sub_cancel_left, List.take_of_length_le (Nat.le_add_right _ _)]
theorem flatG_one (h1 : ∀ x, ∀ u ∈ enc x, u.oneCell' = true) (l : List α) : ∀ u ∈ flatG enc l, u.oneCell' = true := by
  intro u hu
  obtain ⟨x, _, hx⟩ := List.mem_flatMap.1 hu
  exact h1 x u hx
/-- One cell of one element stored: the element is another one. -/
theorem flatG_set (he : ∀ x, (enc x).length = k) : ∀ (l : List α) (i j : Nat) (hi : i < l.length), j < k → ∀ (u : Value) (y : α), enc y = (enc l[i]).set j u → (flatG enc l).set (i * k + j) u = flatG enc (l.set i y)
  | x :: l, 0, j, _, hj, u, y, hy => by
    rw [flatG_cons, Nat.zero_mul, Nat.zero_add, List.set_append_left _ _ (by rw [he]; exact hj), List.set_cons_zero, flatG_cons, hy]
    rfl
  | x :: l, i + 1, j, hi, hj, u, y, hy => by
    rw [flatG_cons, List.set_append_right _ _ (by rw [he, Nat.add_mul]; omega), List.set_cons_succ, flatG_cons]
    have : (i + 1) * k + j - (enc x).length = i * k + j := by rw [he, Nat.add_mul]; omega
    rw [this, flatG_set he l i j (by simpa using hi) hj u y hy]
end

end Go.Proofs.YtnfabgbidkddhaaGreatDoor

namespace Go.Proofs.YtnfabgbidkddhaaGreatDoor
open Go.RowKit

theorem below_alloc1 (w : World) (o : Obj) : Below w.heap.size w (w.alloc o) := (Below.refl _ w).alloc (Nat.le_refl _) o
theorem below_drop {B : Nat} {w w' : World} (h : Below B w.drew w') : Below B w w' := ⟨h.os, h.tape, h.output, h.size, h.block⟩
theorem below_then {w w1 w2 : World} (h : Below w.heap.size w w1) (h2 : Below w1.heap.size w1 w2) : Below w.heap.size w w2 := h.trans (h2.mono h.size)
theorem below_drew1 (w : World) : Below w.heap.size w w.drew := ⟨rfl, rfl, rfl, Nat.le_refl _, fun _ _ => rfl⟩
theorem below_frozen {w w' : World} (h : Below w.heap.size w w') {p : Addr} (hp : p.block < w.heap.size) : w'.frozen? p = w.frozen? p := World.frozen?_of_block (h.block p.block hp)
theorem cell_heap {w W : World} (he : W.heap = w.heap) (p : Addr) : W.cell? p = w.cell? p := World.cell?_of_block (by rw [he])
theorem Sl.owner {w : World} {e : TypeId} {b off cap n : Nat} {h : Option Nat} {xs : List Value} (hs : Sl w e 1 (.slice (some ⟨b, off, none⟩) n cap) h n xs) : h = some b := by
  rcases hs.2 with ⟨_, hv, _⟩ | ⟨b', off', cap', cur, hh, hv, _⟩
  · cases hv
  · simp only [Value.slice.injEq, Option.some.injEq, Addr.mk.injEq, and_true, true_and] at hv
    rw [hh, hv.1.1]
theorem Sl.ne_sl {w : World} {e e' : TypeId} {size size' n n' : Nat} {v v' : Value} {h h' : Option Nat} {xs xs' : List Value} (hs : Sl w e size v h n xs) (hs' : Sl w e' size' v' h' n' xs') (hne : e ≠ e') : ∀ b, h = some b → h' ≠ some b := by
  intro b hb hb'
  rcases hs'.2 with ⟨hn, _⟩ | ⟨b', off, cap, cur, hh', _, hB, _⟩
  · rw [hb'] at hn
    cases hn
  · rw [hb'] at hh'
    obtain rfl := Option.some.inj hh'
    exact hs.ne_blk hB hne b hb rfl
def encF (f : List UInt8 × List UInt8) : List Value := [.string ⟨f.1.toArray⟩, .string ⟨f.2.toArray⟩]
theorem encF_length (f : List UInt8 × List UInt8) : (encF f).length = 2 := rfl
theorem Try.infoString : (Tryz.prog.info? 9).map (fun i => (i.zero, i.size, i.bytes)) = some (some (.string ⟨#[]⟩), 1, 16) := by kernel_rfl

theorem blk_new2 (w : World) (o : Obj) (t : TypeId) (cs : Array Value) : Blk ((w.alloc o).alloc (.cells cs t)) (w.heap.size + 1) t cs := by
  have h := Blk.new (w.alloc o) t cs
  rw [show (w.alloc o).heap.size = w.heap.size + 1 from by simp] at h
  exact h

end Go.Proofs.YtnfabgbidkddhaaGreatDoor

namespace Go.Proofs.YtnfabgbidkddhaaGreatDoor
open Go Go.RowKit

/-- What an iterator owes whose state lies in cell 0 of block B. -/
def SeqStopsC {α : Type} (F : Fence) (n : Nat) (P : Program) (g : Nat) (lb : Array Value) (encs : α → Array Value) (Kp : World → World → Prop) (B : Nat) (S Sp : List α → Prop) (N : Nat) (w : World) : Prop :=
  ∀ (l : Nat) (J Jx : List α → World → Prop) (W : World), Below w.heap.size w W → (∀ pre A A', J pre A → Chg [B] A A' → J pre A') → (∀ pre A A', Jx pre A → Chg [B] A A' → Jx pre A') →
    (∀ pre x W1, J pre W1 → pre.length < N → YieldAt F (n - 1) P l (encs x) W1 fun e W' =>
      (e = .returned (.bool true) ∧ J (pre ++ [x]) W' ∧ Kp W1 W') ∨ (e = .returned (.bool false) ∧ Jx (pre ++ [x]) W')) →
    J [] W →
    CallsIn F n P g (#[.func (.yield l) #[] #[]] ++ lb) W fun e W' => (∃ v, e = .returned v) ∧ ((∃ xs, S xs ∧ J xs W') ∨ (∃ pre, Sp pre ∧ Jx pre W'))

variable {F : Fence} {n : Nat} {P : Program}

theorem wpIn_rangeFunc_ownC {α : Type} {g : Operand} {ps : Array Tmp} {assign body : Code} {Q : Exit → Act → World → Prop} {a : Act} {w : World}
    (hro : F.round = none) (h1 : 1 ≤ n) {gf : Nat} {lb : Array Value} (hg : a.eval g = .func (.func gf) #[] lb) (hFg : F.fn gf) (eg : ∀ args w, (callFunc gf args).run P w = .ok (.enter gf args) w)
    {encs : α → Array Value} {Kp : World → World → Prop} {B : Nat} {S Sp : List α → Prop} {N : Nat} (hseq : SeqStopsC F (n - 1) P gf lb encs Kp B S Sp N w) (hB : B < w.heap.size)
    (hKt : ∀ {A B C : World}, Kp A B → Kp B C → Kp A C) (hKb : ∀ (W : World) (l : Nat) (o o' : Obj), w.heap.size ≤ l → W.heap[l]? = some o → o.isCells = false → o.isWalk = false → Kp W (W.putObj l o')) (hps : ∀ x, (encs x).size = ps.size)
    (I : List α → World → Prop) (Ix : Code → List α → World → Prop) (hI : OwnFrom w.heap.size I) (hIx : ∀ c, OwnFrom w.heap.size (Ix c)) (hIB : ∀ pre A A', I pre A → Chg [B] A A' → I pre A') (hIxB : ∀ c pre A A', Ix c pre A → Chg [B] A A' → Ix c pre A') (h0 : I [] w) (a₁ : α → Act)
    (hassign : ∀ (l : Nat) (x : α) (W : World) (K : Act → World → Prop), K (a₁ x) W →
      assign.wpIn (F.inRound l) (n - 1 - 1) P (Exit.then K (fun _ _ _ => False)) { tmps := (ps.zip (encs x)).foldl (fun t (p, v) => t.setIfInBounds p v) a.tmps, defers := [] } W)
    (hbody : ∀ (l : Nat) (pre : List α) (x : α) (W : World), I pre W → pre.length < N → body.wpIn (F.inRound l) (n - 1 - 1) P (ownPostK Kp I Ix (pre ++ [x]) W) (a₁ x) W)
    (hdone : ∀ (D : Nat) (xs : List α) (W : World), w.heap.size ≤ D → S xs → I xs W → W.heap[D]? = some (.deferred (some [])) → Q .normal { a with defers := { target := .collected D, args := #[] } :: a.defers } W)
    (hstop : ∀ (D : Nat) (c : Code) (pre : List α) (W : World), w.heap.size ≤ D → Sp pre → Ix c pre W → W.heap[D]? = some (.deferred (some [])) → c.wpIn F n P Q { a with defers := { target := .collected D, args := #[] } :: a.defers } W) :
    (Code.rangeFunc g ps assign body).wpIn F n P Q a w := by
  refine wpIn_rangeFunc ?_
  intro fn hfn
  rw [hro]
  obtain ⟨rec, hrec⟩ : ∃ rec : LoopState → Option Code → Loop, rec = fun st pe => { state := st, pending := pe, fn, tmps := a.tmps, params := ps, assign, body, defers := w.heap.size } := ⟨_, rfl⟩
  obtain ⟨W1, hW1⟩ : ∃ W1, (w.alloc (.deferred (some []))).alloc (.loop (rec .ready none)) = W1 := ⟨_, rfl⟩
  have hL1 : W1.heap[w.heap.size + 1]? = some (.loop (rec .ready none)) := by
    rw [← hW1]; have := World.alloc_heap_new (w.alloc (.deferred (some []))) (.loop (rec .ready none)); rwa [World.size_alloc] at this
  have hK1 : W1.heap[w.heap.size]? = some (.deferred (some [])) := by
    rw [← hW1]; exact (Below.heap_alloc _ _ _ (by simp)).trans (World.alloc_heap_new w _)
  have hI1 : I [] W1 := by rw [← hW1]; exact hI.alloc _ (hI.alloc _ h0)
  have hb1 : Below w.heap.size w W1 := by
    rw [← hW1]; exact ((Below.refl _ w).alloc (Nat.le_refl _) _).alloc (by simp) _
  refine ⟨w.heap.size + 1, [{ target := .collected w.heap.size, args := #[] }], W1, { target := .fn (.func gf) lb, args := #[.func (.yield (w.heap.size + 1)) #[] #[]] }, W1, gf,
    #[.func (.yield (w.heap.size + 1)) #[] #[]] ++ lb, W1, ?_, ?_, ?_, ?_, fun _ => h1, ?_⟩
  · rw [← hW1, hrec]; exact run_enterLoop_outer _ _ _ _ _
  · simp only [resolve, hg]
    simp [go_sem]
  · intro f' hf'; simp [Target.leads] at hf'; subst hf'; exact hFg
  · simp [invoke, go_sem, eg]
  · refine (hseq (w.heap.size + 1)
      (fun pre W => I pre W ∧ W.heap[w.heap.size + 1]? = some (.loop (rec .ready none)) ∧ W.heap[w.heap.size]? = some (.deferred (some [])))
      (fun pre W => ∃ c, Ix c pre W ∧ W.heap[w.heap.size + 1]? = some (.loop (rec .done (some c))) ∧ W.heap[w.heap.size]? = some (.deferred (some [])))
      W1 hb1
      (fun pre A A' hs hc => ⟨hIB pre A A' hs.1 hc, (hc.block _ (Array.getElem?_eq_some_iff.1 hs.2.1).1 (by simp; omega)).trans hs.2.1, (hc.block _ (Array.getElem?_eq_some_iff.1 hs.2.2).1 (by simp; omega)).trans hs.2.2⟩)
      (fun pre A A' hs hc => by
        obtain ⟨c, h1, h2, h3⟩ := hs
        exact ⟨c, hIxB c pre A A' h1 hc, (hc.block _ (Array.getElem?_eq_some_iff.1 h2).1 (by simp; omega)).trans h2, (hc.block _ (Array.getElem?_eq_some_iff.1 h3).1 (by simp; omega)).trans h3⟩)
      ?_ ⟨hI1, hL1, hK1⟩).mono ?_
    · rintro pre x W ⟨hi, hl, hk⟩ hlen
      have hlt : w.heap.size + 1 < W.heap.size := (Array.getElem?_eq_some_iff.1 hl).1
      have hy := run_yield (P := P) (args := encs x) hl (by rw [hrec]; exact hps x)
      rw [hrec] at hy
      refine ⟨fn, _, assign, body, hy, roundIn_of_wpIn hfn (hassign _ x W _ ⟨_, run_beginRound hl (by rw [hrec]), ?_⟩)⟩
      have hl2 : (W.putObj (w.heap.size + 1) (.loop { rec .ready none with state := .busy })).heap[w.heap.size + 1]? = some (.loop { rec .ready none with state := .busy }) := World.putObj_heap_same hlt
      have hk2 : (W.putObj (w.heap.size + 1) (.loop { rec .ready none with state := .busy })).heap[w.heap.size]? = some (.deferred (some [])) := (World.putObj_heap_other (by omega)).trans hk
      have hw2 : Kp W (W.putObj (w.heap.size + 1) (.loop { rec .ready none with state := .busy })) := hKb _ _ _ _ (by omega) hl rfl rfl
      refine wpIn_mono (hbody _ pre x _ (hI.putObj _ hi (by omega) hl rfl) hlen) ?_
      have fin : ∀ (jump : Option Code) (W3 : World), KeepsOthers (W.putObj (w.heap.size + 1) (.loop { rec .ready none with state := .busy })) W3 →
          (Instr.endRound (w.heap.size + 1) jump).run P W3 = .ok (.bool jump.isNone) (W3.putObj (w.heap.size + 1) (.loop (rec (if jump.isNone then .ready else .done) jump))) ∧
          W3.heap[w.heap.size + 1]? = some (.loop { rec .ready none with state := .busy }) ∧
          (W3.putObj (w.heap.size + 1) (.loop (rec (if jump.isNone then .ready else .done) jump))).heap[w.heap.size + 1]? = some (.loop (rec (if jump.isNone then .ready else .done) jump)) ∧
          (W3.putObj (w.heap.size + 1) (.loop (rec (if jump.isNone then .ready else .done) jump))).heap[w.heap.size]? = some (.deferred (some [])) := fun jump W3 hk3 => by
        have hl3 := hk3.same _ _ hl2 rfl
        have := run_endRound (P := P) jump hl3
        rw [hrec] at this ⊢
        exact ⟨this, by rw [hrec] at hl3; exact hl3, World.putObj_heap_same (Array.getElem?_eq_some_iff.1 hl3).1, (World.putObj_heap_other (by omega)).trans (hk3.same _ _ hk2 rfl)⟩
      rintro e a3 W3 hp
      cases e with
      | normal =>
        obtain ⟨hk3, hkp3, hi3⟩ := hp
        obtain ⟨hr, hl3, hl4, hk4⟩ := fin none W3 hk3
        exact ⟨_, _, hr, .inl ⟨rfl, ⟨hI.putObj _ hi3 (by omega) hl3 rfl, hl4, hk4⟩, hKt (hKt hw2 hkp3) (hKb _ _ _ _ (by omega) hl3 rfl rfl)⟩⟩
      | ret =>
        obtain ⟨hk3, hi3⟩ := hp
        obtain ⟨hr, hl3, hl4, hk4⟩ := fin (some .ret) W3 hk3
        exact ⟨_, _, hr, .inr ⟨rfl, .ret, (hIx _).putObj _ hi3 (by omega) hl3 rfl, hl4, hk4⟩⟩
      | exit id =>
        obtain ⟨hk3, hi3⟩ := hp
        obtain ⟨hr, hl3, hl4, hk4⟩ := fin (some (.exit id)) W3 hk3
        exact ⟨_, _, hr, .inr ⟨rfl, .exit id, (hIx _).putObj _ hi3 (by omega) hl3 rfl, hl4, hk4⟩⟩
      | goto t =>
        obtain ⟨hk3, hi3⟩ := hp
        obtain ⟨hr, hl3, hl4, hk4⟩ := fin (some (.goto t)) W3 hk3
        exact ⟨_, _, hr, .inr ⟨rfl, .goto t, (hIx _).putObj _ hi3 (by omega) hl3 rfl, hl4, hk4⟩⟩
      | panic ch => exact hp.elim
      | outgrown => exact hp.elim
    · rintro e W2 ⟨⟨v, rfl⟩, (⟨xs, hS, hi, hl, hk⟩ | ⟨pre, hSp, c, hi, hl, hk⟩)⟩
      · exact ⟨none, _, by have := run_endLoop (P := P) hl (by rw [hrec]; simp); rw [hrec] at this; exact this, hdone _ xs _ (Nat.le_refl _) hS (hI.putObj _ hi (by omega) hl rfl) ((World.putObj_heap_other (by omega)).trans hk)⟩
      · exact ⟨some c, _, by have := run_endLoop (P := P) hl (by rw [hrec]; simp); rw [hrec] at this; exact this, hstop _ c pre _ (Nat.le_refl _) hSp ((hIx c).putObj _ hi (by omega) hl rfl) ((World.putObj_heap_other (by omega)).trans hk)⟩

end Go.Proofs.YtnfabgbidkddhaaGreatDoor

namespace Go.Proofs.YtnfabgbidkddhaaGreatDoor
open Go.Lib

/-- The lines of what is left of a text, and the places behind them. -/
def linesF : Nat → List UInt8 → Nat → List (List UInt8 × Nat)
  | 0, _, _ => []
  | f + 1, s, p =>
    if s = [] then []
    else if Lib.indexByte s 10 < 0 then [(s, p + s.length)]
    else (Lib.trimSuffix (s.take (Lib.indexByte s 10).toNat) [13], p + ((Lib.indexByte s 10).toNat + 1)) :: linesF f (s.drop ((Lib.indexByte s 10).toNat + 1)) (p + ((Lib.indexByte s 10).toNat + 1))
def blankB (t : List UInt8) : Bool := decide (t[0]? = some 32) || decide (t[0]? = some 9)
/-- A line more: it goes on with the last one, or is another. -/
def addLine (g : List (List UInt8)) (t : List UInt8) : List (List UInt8) := if g ≠ [] ∧ blankB t = true then g.dropLast ++ [(g.getLast?.getD []) ++ t] else g ++ [t]
def gatherF : List (List UInt8 × Nat) → List (List UInt8) → Nat → List (List UInt8) × Nat
  | [], g, b => (g, b)
  | (t, p) :: r, g, b => if t = [] then (g, p) else gatherF r (addLine g t) b
/-- The field that a text is; false: it is none. -/
def oneF (s : List UInt8) : (List UInt8 × List UInt8) × Bool :=
  (((Lib.cut s [58]).1, Lib.trimS (Lib.cut s [58]).2.1 [32, 9]), (Lib.cut s [58]).2.2 && ((Lib.cut s [58]).1.all (fun b => decide (33 ≤ b.toNat) && decide (b.toNat ≤ 126)) && !decide ((Lib.cut s [58]).1 = [])))
def fieldsG (g : List (List UInt8)) : List (List UInt8 × List UInt8) := g.filterMap fun s => if (oneF s).2 then some (oneF s).1 else none
def fieldsF : List (List UInt8) → List (List UInt8 × List UInt8)
  | [] => []
  | s :: r => fieldsG (if blankB s = true then r else s :: r)
def splitF (s : List UInt8) : List (List UInt8 × List UInt8) × Nat := (fieldsF (gatherF (linesF s.length s 0) [] s.length).1, (gatherF (linesF s.length s 0) [] s.length).2)
def firstF (l : List (List UInt8 × List UInt8)) (name : List UInt8) : List UInt8 × Bool := match l.find? (fun f => decide (lowL f.1 = lowL name)) with
  | some f => (f.2, true)
  | none => ([], false)
def headF (t name : List UInt8) : List UInt8 := (firstF (splitF t).1 name).1

theorem addLine_ne {g : List (List UInt8)} {t : List UInt8} (hg : ∀ x ∈ g, x ≠ []) (ht : t ≠ []) : ∀ x ∈ addLine g t, x ≠ [] := by
  intro x hx
  unfold addLine at hx
  split at hx
  · rename_i h
    rw [List.mem_append, List.mem_singleton] at hx
    rcases hx with hx | rfl
    · exact hg x (List.dropLast_subset g hx)
    · simp [ht]
  · rw [List.mem_append, List.mem_singleton] at hx
    rcases hx with hx | rfl
    · exact hg x hx
    · exact ht
def sumL (g : List (List UInt8)) : Nat := (g.map List.length).sum
theorem sumL_append (a b : List (List UInt8)) : sumL (a ++ b) = sumL a + sumL b := by simp [sumL]
theorem addLine_sum (g : List (List UInt8)) (t : List UInt8) : sumL (addLine g t) = sumL g + t.length := by
  unfold addLine
  split
  · rename_i h
    obtain ⟨g', z, rfl⟩ : ∃ g' z, g = g' ++ [z] := ⟨g.dropLast, g.getLast h.1, (List.dropLast_concat_getLast _).symm⟩
    simp [sumL]
    omega
  · simp [sumL]
theorem addLine_length (g : List (List UInt8)) (t : List UInt8) : (addLine g t).length ≤ g.length + 1 := by
  unfold addLine
  split
  · simp
  · simp

end Go.Proofs.YtnfabgbidkddhaaGreatDoor

namespace Go.Proofs.YtnfabgbidkddhaaGreatDoor
open Go Go.Proofs Go.Shelf Go.RowKit Go.Lib
variable {P : Program} {ρ : Ren}

set_option maxHeartbeats 2000000 in
set_option maxRecDepth 100000 in
theorem lite_Cut_one (L : Lays.n220 P ρ) (s : ByteArray) (c : UInt8) (w : World) (hs : s.size < 4294967281) :
    Calls P (ρ.f 220) #[.string s, .string ⟨#[c]⟩] w fun e w' => e = .returned (.tuple #[.string ⟨(Lib.cut s.data.toList [c]).1.toArray⟩, .string ⟨(Lib.cut s.data.toList [c]).2.1.toArray⟩, .bool (Lib.cut s.data.toList [c]).2.2]) ∧ ∃ n, w' = w.drewN n := by
  have hsep : (⟨#[c]⟩ : ByteArray).data.toList = [c] := rfl
  rcases Lib.indexB_cases s ⟨#[c]⟩ with hix | ⟨i, hix, hroom⟩
  · obtain ⟨e1, e2, e3⟩ := Lib.cutB_miss s ⟨#[c]⟩ hix
    rw [hsep] at e1 e2 e3
    rw [e1, e2, e3]
    have t3 := L.t3; have t4 := L.t4; have t9 := L.t9
    have a3 : ∀ w, (isAgg (ρ.t 3)).run P w = .ok false w := run_isAgg_plain L.t3 rfl; have a4 : ∀ w, (isAgg (ρ.t 4)).run P w = .ok false w := run_isAgg_plain L.t4 rfl; have a9 : ∀ w, (isAgg (ρ.t 9)).run P w = .ok false w := run_isAgg_plain L.t9 rfl
    have e219 : ∀ args w, (callFunc (ρ.f 219) args).run P w = .ok (.enter (ρ.f 219) args) w := enters_of L.f219 (by kernel_rfl) rfl
    have mixed := L.mixed; have z3 := L.z3; have v3 := L.v3; have z4 := L.z4; have v4 := L.v4; have z9 := L.z9; have v9 := L.v9
    go_enter L.f220, Body.n220_ntmps ρ
    go_wp2_with (go_at_fn (ρ.f 219); refine (Any.stringslite_Index_one { L with } _ _ _).mono ?_; rintro e w' ⟨rfl, rfl⟩; rw [show Lib.indexByte s.data.toList c = _ from (Lib.index_one _ _).symm.trans hix])
    go_ret3
    exact ⟨rfl, 0, rfl⟩
  · obtain ⟨e1, e2, e3⟩ := Lib.cutB_hit s ⟨#[c]⟩ i hix
    rw [hsep] at e1 e2 e3
    rw [e1, e2, e3]
    have hsz : (⟨#[c]⟩ : ByteArray).size = 1 := rfl
    have c1 : (0 : Int) ≤ ↑i := by omega
    have c2 : (↑i : Int) ≤ ↑s.size := by omega
    have c3 : (0 : Int) ≤ ↑i + 1 := by omega
    have c4 : (↑i + 1 : Int) ≤ ↑s.size := by omega
    have c5 : IntKind.i64.wrap ((i : Int) + 1) = (i : Int) + 1 := IntWalk.i64_in _ (by omega)
    have t3 := L.t3; have t4 := L.t4; have t9 := L.t9
    have a3 : ∀ w, (isAgg (ρ.t 3)).run P w = .ok false w := run_isAgg_plain L.t3 rfl; have a4 : ∀ w, (isAgg (ρ.t 4)).run P w = .ok false w := run_isAgg_plain L.t4 rfl; have a9 : ∀ w, (isAgg (ρ.t 9)).run P w = .ok false w := run_isAgg_plain L.t9 rfl
    have e219 : ∀ args w, (callFunc (ρ.f 219) args).run P w = .ok (.enter (ρ.f 219) args) w := enters_of L.f219 (by kernel_rfl) rfl
    have mixed := L.mixed; have z3 := L.z3; have v3 := L.v3; have z4 := L.z4; have v4 := L.v4; have z9 := L.z9; have v9 := L.v9
    go_enter L.f220, Body.n220_ntmps ρ
    go_wp2_with (go_at_fn (ρ.f 219); refine (Any.stringslite_Index_one { L with } _ _ _).mono ?_; rintro e w' ⟨rfl, rfl⟩; rw [show Lib.indexByte s.data.toList c = _ from (Lib.index_one _ _).symm.trans hix])
    go_region_o
    go_wp2
    go_ret3
    exact ⟨rfl, 1, rfl⟩

set_option maxHeartbeats 1000000 in
theorem cut_one (L : Lays.n145 P ρ) (s : ByteArray) (c : UInt8) (w : World) (hs : s.size < 4294967281) :
    Calls P (ρ.f 145) #[.string s, .string ⟨#[c]⟩] w fun e w' => e = .returned (.tuple #[.string ⟨(Lib.cut s.data.toList [c]).1.toArray⟩, .string ⟨(Lib.cut s.data.toList [c]).2.1.toArray⟩, .bool (Lib.cut s.data.toList [c]).2.2]) ∧ ∃ n, w' = w.drewN n := by
  have t4 := L.t4; have t9 := L.t9; have t59 := L.t59
  have a4 : ∀ w, (isAgg (ρ.t 4)).run P w = .ok false w := run_isAgg_plain L.t4 rfl; have a9 : ∀ w, (isAgg (ρ.t 9)).run P w = .ok false w := run_isAgg_plain L.t9 rfl; have a59 : ∀ w, (isAgg (ρ.t 59)).run P w = .ok false w := run_isAgg_plain L.t59 rfl
  have e220 : ∀ args w, (callFunc (ρ.f 220) args).run P w = .ok (.enter (ρ.f 220) args) w := enters_of L.f220 (by kernel_rfl) rfl
  have mixed := L.mixed; have z4 := L.z4; have v4 := L.v4; have z9 := L.z9; have v9 := L.v9; have z59 := L.z59; have v59 := L.v59
  go_enter L.f145, Body.n145_ntmps ρ
  go_wp2_with (go_at_fn (ρ.f 220); refine (lite_Cut_one { L with } _ _ _ hs).mono ?_; rintro e w' ⟨rfl, n, rfl⟩)
  go_ret3
  exact ⟨rfl, n, rfl⟩

end Go.Proofs.YtnfabgbidkddhaaGreatDoor

namespace Go.Proofs.YtnfabgbidkddhaaGreatDoor
open Go.Shelf Go.RowKit

shelf_lay Lays.n160 Nm 160 at Tryz as Tryz.lays160

theorem trim_any (s : List UInt8) (w : World) (hs : s.length ≤ 4294967281) :
    Calls Tryz.prog 93 #[.string ⟨s.toArray⟩, .string ⟨#[32, 9]⟩] w fun e w' => e = .returned (.string ⟨(Lib.trimS s [32, 9]).toArray⟩) ∧ Below w.heap.size w w' :=
  Any.strings_Trim_laid Tryz.lays160 (by kernel_rfl) ⟨s.toArray⟩ ⟨#[32, 9]⟩ w (by show s.toArray.size ≤ _; simp; omega) (by decide) (ascii_of_all (by decide))
theorem cut_any (s : List UInt8) (w : World) (hs : s.length < 4294967281) :
    Calls Tryz.prog 92 #[.string ⟨s.toArray⟩, .string ⟨#[58]⟩] w fun e w' => e = .returned (.tuple #[.string ⟨(Lib.cut s [58]).1.toArray⟩, .string ⟨(Lib.cut s [58]).2.1.toArray⟩, .bool (Lib.cut s [58]).2.2]) ∧ ∃ n, w' = w.drewN n :=
  cut_one Tryz.lays145 ⟨s.toArray⟩ 58 w (by show s.toArray.size < _; simp; omega)

end Go.Proofs.YtnfabgbidkddhaaGreatDoor

namespace Go.Proofs.YtnfabgbidkddhaaGreatDoor
open Go.Shelf Go.RowKit
attribute [local go_sem ↓] Go.wp_at_zero Go.wp_at_succ

theorem below_dropN {w w' : World} {n : Nat} (h : Below (w.drewN n).heap.size (w.drewN n) w') : Below w.heap.size w w' := ⟨h.os, h.tape, h.output, h.size, h.block⟩
def headB (b : UInt8) : Bool := decide (33 ≤ b.toNat) && decide (b.toNat ≤ 126)

set_option maxRecDepth 100000 in
set_option maxHeartbeats 1000000 in
theorem oneFd_any (s : List UInt8) (w : World) (hs : s.length < 4294967281) (hcl : (Lib.cut s [58]).1.length ≤ s.length ∧ (Lib.cut s [58]).2.1.length ≤ s.length) :
    Calls Tryz.prog 53 #[.string ⟨s.toArray⟩] w fun e w' => e = .returned (.tuple #[.agg #[.string ⟨(oneF s).1.1.toArray⟩, .string ⟨(oneF s).1.2.toArray⟩], .bool (oneF s).2]) ∧ Below w.heap.size w w' := by
  have hC := fun W => cut_any s W hs
  unfold oneF
  generalize Lib.cut s [58] = c at hC hcl ⊢
  obtain ⟨nm, vl, ok⟩ := c
  simp only at hC hcl ⊢
  have hT := fun W => trim_any vl W (by omega)
  generalize Lib.trimS vl [32, 9] = tr at hT ⊢
  obtain ⟨S, rfl⟩ : ∃ S : ByteArray, nm = S.data.toList := ⟨⟨nm.toArray⟩, rfl⟩
  have hSS : (⟨S.data.toList.toArray⟩ : ByteArray) = S := rfl
  rw [hSS] at hC ⊢
  have hsz : S.size < 4294967281 := by
    have h1 := hcl.1
    have h2 : S.data.toList.length = S.size := by simp
    omega
  obtain ⟨ans, hans⟩ : ∃ ans, (ok && (S.data.toList.all (fun b => decide (33 ≤ b.toNat) && decide (b.toNat ≤ 126)) && !decide (S.data.toList = []))) = ans := ⟨_, rfl⟩
  rw [hans]
  have hans2 : ans = ((ok && S.data.toList.all headB) && !S.data.toList.isEmpty) := by
    rw [← hans, Bool.and_assoc]
    cases S.data.toList <;> rfl
  have HA := Lib.hid hans2
  clear hcl hs hSS hans hans2
  go_enter Tryz.func53, Tryz.ntmps53
  go_wp2_with (first
    | (go_at_call 92; refine (hC _).mono ?_; rintro e w1 ⟨rfl, nq, rfl⟩; clear hC)
    | fail)
  go_loop [6, 16] (fun o i => ∃ k : Nat, k ≤ S.size ∧ i = .int .i64 k ∧ o = .bool (ok && (S.data.toList.take k).all headB)) (fun _ i => S.size - (intOf i).toNat)
  case atStart => exact ⟨0, Nat.zero_le _, rfl, by simp⟩
  case round =>
    obtain ⟨k, hk, rfl, rfl⟩ := hrel
    by_cases hlt : k < S.size
    · have hk1 : (k : Int) < (S.size : Int) := by omega
      have hsn : (ok && (S.data.toList.take (k + 1)).all headB) = ((ok && (S.data.toList.take k).all headB) && headB S[k]) := by
        rw [take_snocB S k hlt]
        simp [Bool.and_assoc]
      have HSN := Lib.hid hsn
      clear hsn
      generalize (ok && (S.data.toList.take k).all headB) = p at HSN ⊢
      cases p with
      | false =>
        go_wp2_with fail
        refine ⟨?_, by simp [intOf]; omega⟩
        first | exact ⟨k + 1, by omega, by go_num, by rw [HSN.out]; rfl⟩ | ((repeat apply Exists.intro); exact ⟨⟨k + 1, by omega, by go_num, by rw [HSN.out]; rfl⟩, rfl⟩)
      | true =>
        by_cases h1 : (33 : Int) ≤ (S[k].toNat : Int)
        · by_cases h2 : (S[k].toNat : Int) ≤ 126
          · have hb : headB S[k] = true := by simp [headB]; omega
            rw [hb] at HSN
            go_wp2_with fail
            refine ⟨?_, by simp [intOf]; omega⟩
            first | exact ⟨k + 1, by omega, by go_num, by rw [HSN.out]; rfl⟩ | ((repeat apply Exists.intro); exact ⟨⟨k + 1, by omega, by go_num, by rw [HSN.out]; rfl⟩, rfl⟩)
          · have hb : headB S[k] = false := by simp [headB]; omega
            rw [hb] at HSN
            go_wp2_with fail
            refine ⟨?_, by simp [intOf]; omega⟩
            first | exact ⟨k + 1, by omega, by go_num, by rw [HSN.out]; rfl⟩ | ((repeat apply Exists.intro); exact ⟨⟨k + 1, by omega, by go_num, by rw [HSN.out]; rfl⟩, rfl⟩)
        · have hb : headB S[k] = false := by simp [headB]; omega
          rw [hb] at HSN
          go_wp2_with fail
          refine ⟨?_, by simp [intOf]; omega⟩
          first | exact ⟨k + 1, by omega, by go_num, by rw [HSN.out]; rfl⟩ | ((repeat apply Exists.intro); exact ⟨⟨k + 1, by omega, by go_num, by rw [HSN.out]; rfl⟩, rfl⟩)
    · have hkk : k = S.size := by omega
      subst hkk
      have htk : S.data.toList.take S.size = S.data.toList := List.take_of_length_le (by simp)
      rw [htk]
      obtain ⟨p, hp⟩ : ∃ p, (ok && S.data.toList.all headB) = p := ⟨_, rfl⟩
      rw [hp] at HA ⊢
      clear hp htk
      cases p with
      | false =>
        go_wp2_with (first
          | (go_at_call 93; refine (hT _).mono ?_; rintro e w2 ⟨rfl, hb2⟩; have hb3 := below_dropN hb2; have hk2 := (Blk.new w 91 #[.string ⟨#[]⟩, .string ⟨#[]⟩]).below hb3 (by simp); have r0 : w2.cell? ⟨w.heap.size, 0, none⟩ = some (.string ⟨#[]⟩) := hk2.cell 0; have r1 : w2.cell? ⟨w.heap.size, 1, none⟩ = some (.string ⟨#[]⟩) := hk2.cell 1; have f0 := hk2.frozen 0; have f1 := hk2.frozen 1; have HK := Lib.hid hk2; have HB2 := Lib.hid (below_then (below_alloc1 w _) hb3); clear hT hk2 hb2 hb3)
          | fail)
        refine bodyPost_ret (v := .tuple #[.agg #[.string S, .string ⟨tr.toArray⟩], .bool ans]) ?_ rfl ⟨rfl, (((Chg.of_below HB2.out []).set (.inr (Nat.le_refl _)) _).set (.inr (Nat.le_refl _)) _).below (Nat.le_refl _) (by simp)⟩
        have hz := (HK.out.set 0 (.string S)).set 1 (.string ⟨tr.toArray⟩)
        have z0 := hz.cell 0
        have z1 := hz.cell 1
        simp at z0 z1
        rw [HA.out]
        simp [results, Tryz.results53, go_sem, z0, z1]
      | true =>
        go_wp2_with (first
          | (go_at_call 93; refine (hT _).mono ?_; rintro e w2 ⟨rfl, hb2⟩; have hb3 := below_dropN hb2; have hk2 := (Blk.new w 91 #[.string ⟨#[]⟩, .string ⟨#[]⟩]).below hb3 (by simp); have r0 : w2.cell? ⟨w.heap.size, 0, none⟩ = some (.string ⟨#[]⟩) := hk2.cell 0; have r1 : w2.cell? ⟨w.heap.size, 1, none⟩ = some (.string ⟨#[]⟩) := hk2.cell 1; have f0 := hk2.frozen 0; have f1 := hk2.frozen 1; have HK := Lib.hid hk2; have HB2 := Lib.hid (below_then (below_alloc1 w _) hb3); clear hT hk2 hb2 hb3)
          | fail)
        refine bodyPost_ret (v := .tuple #[.agg #[.string S, .string ⟨tr.toArray⟩], .bool ans]) ?_ rfl ⟨rfl, (((Chg.of_below HB2.out []).set (.inr (Nat.le_refl _)) _).set (.inr (Nat.le_refl _)) _).below (Nat.le_refl _) (by simp)⟩
        have hz := (HK.out.set 0 (.string S)).set 1 (.string ⟨tr.toArray⟩)
        have z0 := hz.cell 0
        have z1 := hz.cell 1
        simp at z0 z1
        rw [HA.out]
        simp [results, Tryz.results53, go_sem, z0, z1, ByteArray.toList_eq]

end Go.Proofs.YtnfabgbidkddhaaGreatDoor

namespace Go.Proofs.YtnfabgbidkddhaaGreatDoor
open Go.Shelf Go.RowKit
attribute [local go_sem ↓] Go.wp_at_zero Go.wp_at_succ
attribute [local go_sem] Oper.semAt_some

theorem lines_any (s : ByteArray) (at_ t_ : Int) (w : World) :
    Calls Tryz.prog 52 #[.string s, .int .i64 at_, .int .i64 t_] w fun e w' => e = .returned (.func (.func 89) #[] #[.pointer (some ⟨w.heap.size + 1, 0, none⟩), .pointer (some ⟨w.heap.size + 1 + 1, 0, none⟩), .pointer (some ⟨w.heap.size, 0, none⟩)]) ∧ w' = ((w.alloc (.cells #[.string s] 9)).alloc (.cells #[.int .i64 at_] 3)).alloc (.cells #[.int .i64 t_] 3) := by
  go_enter Tryz.func52, Tryz.ntmps52
  go_wp2
  go_ret
  exact ⟨rfl, rfl⟩

/-- The line at a place, and the place behind it. -/
def lineAt (s : List UInt8) (p : Nat) : List UInt8 × Nat :=
  if Lib.indexByte (s.drop p) 10 < 0 then (s.drop p, s.length)
  else (Lib.trimSuffix ((s.drop p).take (Lib.indexByte (s.drop p) 10).toNat) [13], p + ((Lib.indexByte (s.drop p) 10).toNat + 1))
theorem indexByte_lt (D : List UInt8) (c : UInt8) (h : ¬ Lib.indexByte D c < 0) : (Lib.indexByte D c).toNat < D.length := by
  obtain ⟨o, ho⟩ : ∃ o : Nat, Lib.indexByte D c = o := ⟨(Lib.indexByte D c).toNat, by omega⟩
  have h1 := (Lib.indexByte_some ho).1
  have h2 := (List.getElem?_eq_some_iff.1 h1).1
  omega
theorem linesF_step (s : List UInt8) (p f : Nat) (hp : p < s.length) : linesF (f + 1) (s.drop p) p = lineAt s p :: linesF f (s.drop (lineAt s p).2) (lineAt s p).2 := by
  have hne : s.drop p ≠ [] := by
    intro h
    have := congrArg List.length h
    simp at this
    omega
  rw [linesF, if_neg hne]
  unfold lineAt
  by_cases h : Lib.indexByte (s.drop p) 10 < 0
  · rw [if_pos h, if_pos h]
    have h1 : p + (s.drop p).length = s.length := by simp; omega
    rw [h1]
    have h2 : linesF f (s.drop s.length) s.length = [] := by
      cases f <;> simp [linesF]
    simp only [h2]
  · rw [if_neg h, if_neg h]
    simp only [List.drop_drop]
theorem trimSuffix_le (l p : List UInt8) : (Lib.trimSuffix l p).length ≤ l.length := by
  unfold Lib.trimSuffix
  split
  · rw [List.length_take]
    omega
  · exact Nat.le_refl _
theorem lineAt_next (s : List UInt8) (p : Nat) (hp : p < s.length) : p < (lineAt s p).2 ∧ (lineAt s p).2 ≤ s.length ∧ (lineAt s p).1.length ≤ s.length := by
  unfold lineAt
  by_cases h : Lib.indexByte (s.drop p) 10 < 0
  · rw [if_pos h]
    exact ⟨hp, Nat.le_refl _, by simp⟩
  · rw [if_neg h]
    have := indexByte_lt (s.drop p) 10 h
    simp only [List.length_drop] at this
    have h2 := trimSuffix_le ((s.drop p).take (Lib.indexByte (s.drop p) 10).toNat) [13]
    simp only [List.length_take, List.length_drop] at h2
    refine ⟨?_, ?_, ?_⟩ <;> simp only <;> omega

theorem extract_drop (s : List UInt8) (p : Nat) : (⟨s.toArray⟩ : ByteArray).extract p s.length = ⟨(s.drop p).toArray⟩ := by
  apply ByteArray.ext
  apply Array.ext'
  simp
  exact List.take_of_length_le (by simp)
theorem extract_take (s : List UInt8) (i : Nat) : (⟨s.toArray⟩ : ByteArray).extract 0 i = ⟨(s.take i).toArray⟩ := by
  apply ByteArray.ext
  apply Array.ext'
  simp

structure LnSt (W : World) (BA BT BS : Nat) (s : List UInt8) (p : Nat) : Prop where
  a : Blk W BA 3 #[.int .i64 p]
  t : Blk W BT 3 #[.int .i64 s.length]
  s : Blk W BS 9 #[.string ⟨s.toArray⟩]
def KpL (BA BT BS : Nat) (A B : World) : Prop := B.heap[BA]? = A.heap[BA]? ∧ B.heap[BT]? = A.heap[BT]? ∧ B.heap[BS]? = A.heap[BS]?
theorem LnSt.kp {W W' : World} {BA BT BS : Nat} {s : List UInt8} {p : Nat} (h : LnSt W BA BT BS s p) (k : KpL BA BT BS W W') : LnSt W' BA BT BS s p := ⟨k.1.trans h.a, k.2.1.trans h.t, k.2.2.trans h.s⟩

def posOf (BA : Nat) (W : World) : Nat := match W.cell? ⟨BA, 0, none⟩ with
  | some v => (intOf v).toNat
  | none => 0

set_option maxRecDepth 100000 in
set_option maxHeartbeats 2000000 in
theorem lines1_in (s : List UInt8) (hs : s.length ≤ 4294967296) (BA BT BS l : Nat) (hne : BA ≠ BT ∧ BA ≠ BS) (J Jx : List (List UInt8 × Nat) → World → Prop) (hJ : ∀ pre A A', J pre A → Chg [BA] A A' → J pre A')
    (hY : ∀ pre (x : List UInt8 × Nat) W, x.1.length ≤ s.length → x.2 ≤ s.length → J pre W → pre.length < s.length → YieldAt Fence.wide (2 - 1) Tryz.prog l #[.string ⟨x.1.toArray⟩, .int .i64 (x.2 : Nat)] W fun e W' =>
      (e = .returned (.bool true) ∧ J (pre ++ [x]) W' ∧ KpL BA BT BS W W') ∨ (e = .returned (.bool false) ∧ Jx (pre ++ [x]) W'))
    (W : World) (hL : LnSt W BA BT BS s 0) (h0 : J [] W) :
    CallsIn Fence.wide 2 Tryz.prog 89 #[.func (.yield l) #[] #[], .pointer (some ⟨BA, 0, none⟩), .pointer (some ⟨BT, 0, none⟩), .pointer (some ⟨BS, 0, none⟩)] W fun e W' => (∃ v, e = .returned v) ∧
      ((∃ xs, xs = linesF s.length s 0 ∧ J xs W') ∨ (∃ pre, pre <+: linesF s.length s 0 ∧ Jx pre W')) := by
  refine callsIn_of_wp Tryz.func89 rfl trivial ?_ rfl
  simp only [Tryz.ntmps89, List.size_toArray, List.length_cons, List.length_nil, Nat.reduceAdd, Nat.reduceSub, Array.replicate_succ, Array.replicate_zero, List.push_toArray, List.append_toArray, List.nil_append, List.cons_append]
  refine wpIn_wide.2 ?_
  have HJ := Lib.hid hJ
  have HY := Lib.hid hY
  have HNE := Lib.hid hne
  clear hJ hY hne
  go_wp2_with fail
  go_loopw [5] (fun _ wr => ∃ (p f : Nat) (pre : List (List UInt8 × Nat)), p ≤ s.length ∧ Hid (LnSt wr BA BT BS s p) ∧ Hid (J pre wr) ∧ Hid (linesF s.length s 0 = pre ++ linesF f (s.drop p) p ∧ s.length ≤ p + f ∧ pre.length ≤ p)) (fun _ wr => s.length - posOf BA wr)
  case atStart => exact ⟨0, s.length, [], Nat.zero_le _, Lib.hid hL, Lib.hid h0, Lib.hid ⟨by simp, by omega, by simp⟩⟩
  case round =>
    obtain ⟨p, f, pre, hp, HL, HP, HT⟩ := hrel
    have cA : wr.cell? ⟨BA, 0, none⟩ = some (.int .i64 p) := HL.out.a.cell 0
    have cT : wr.cell? ⟨BT, 0, none⟩ = some (.int .i64 s.length) := HL.out.t.cell 0
    have cS : wr.cell? ⟨BS, 0, none⟩ = some (.string ⟨s.toArray⟩) := HL.out.s.cell 0
    by_cases hlt : p < s.length
    · obtain ⟨f', rfl⟩ : ∃ f', f = f' + 1 := ⟨f - 1, by have := HT.out.2.1; omega⟩
      have hstep := linesF_step s p f' hlt
      have hnext := lineAt_next s p hlt
      have hx : (⟨s.toArray⟩ : ByteArray).extract p s.length = ⟨(s.drop p).toArray⟩ := extract_drop s p
      have hla : lineAt s p = if Lib.indexByte (s.drop p) 10 < 0 then (s.drop p, s.length) else (Lib.trimSuffix ((s.drop p).take (Lib.indexByte (s.drop p) 10).toNat) [13], p + ((Lib.indexByte (s.drop p) 10).toNat + 1)) := rfl
      have hDl : (s.drop p).length ≤ 4294967296 := by simp; omega
      have hil := indexByte_lt (s.drop p) 10
      obtain ⟨D, hD⟩ : ∃ D, s.drop p = D := ⟨_, rfl⟩
      rw [hD] at hx hla hDl hil hstep
      have HD := Lib.hid hD
      clear hD
      obtain ⟨x, hx2⟩ : ∃ x, x = lineAt s p := ⟨_, rfl⟩
      rw [← hx2] at hla hstep hnext
      have HX := Lib.hid hx2
      have HST := Lib.hid hstep
      have c1 := fun W => Tryz.strings_IndexByte ⟨D.toArray⟩ 10 W
      have c1 : ∀ W, Calls Tryz.prog 90 #[.string ⟨D.toArray⟩, .int .u8 10] W fun e w' => e = .returned (.int .i64 (Lib.indexByte D 10)) ∧ w' = W := c1
      have c2 := fun (l : List UInt8) (hl : l.length ≤ 4294967296) W => Tryz.strings_TrimSuffix ⟨l.toArray⟩ ⟨#[13]⟩ W (by show l.toArray.size ≤ _; simp; omega)
      have c2 : ∀ (l : List UInt8) (_ : l.length ≤ 4294967296) W, Calls Tryz.prog 91 #[.string ⟨l.toArray⟩, .string ⟨#[13]⟩] W fun e w' => e = .returned (.string ⟨(Lib.trimSuffix l [13]).toArray⟩) ∧ w' = W := c2
      generalize Lib.indexByte D 10 = r at c1 hla hil
      obtain ⟨x1, x2⟩ := x
      have hp0 : (0 : Int) ≤ (p : Int) := by omega
      have hp1 : (p : Int) ≤ (s.length : Int) := by omega
      have hp2 : (p : Int) < (s.length : Int) := by omega
      have HN := Lib.hid hnext
      clear hx2 hstep hnext
      go_wp2_with fail
      go_quiet (fail)
      go_upto_if 19 with (first
        | (go_at_call 90; refine (c1 _).mono ?_; rintro e w2 ⟨rfl, rfl⟩; clear c1)
        | fail)
      obtain ⟨wq, hwq⟩ : ∃ wq : World, wq = wr.drewN nq := ⟨_, rfl⟩
      rw [← hwq]
      have cA : wq.cell? ⟨BA, 0, none⟩ = some (.int .i64 p) := by rw [hwq]; exact cA
      have HWQ := Lib.hid hwq
      clear hwq
      go_cut [5, 6] (fun t nx wx => t = .string ⟨x1.toArray⟩ ∧ nx = .int .i64 (x2 : Nat) ∧ ∃ q, Hid (wx = wq.drewN q))
      case first =>
        by_cases hr : r < 0
        · rw [if_pos hr] at hla
          injection hla with hl1 hl2
          subst hl1 hl2
          have hr2 : ¬ 0 ≤ r := by omega
          go_wp2_with fail
          go_meet
          exact ⟨rfl, rfl, 0, Lib.hid rfl⟩
        · rw [if_neg hr] at hla
          injection hla with hl1 hl2
          subst hl1 hl2
          have hil2 := hil (by omega)
          obtain ⟨i, rfl⟩ : ∃ i : Nat, r = i := ⟨r.toNat, by omega⟩
          simp only [Int.toNat_natCast] at hil2 ⊢
          have hx3 : (⟨D.toArray⟩ : ByteArray).extract 0 i = ⟨(D.take i).toArray⟩ := extract_take D i
          have c3 := c2 (D.take i) (by rw [List.length_take]; omega)
          have hr2 : (0 : Int) ≤ (i : Int) := by omega
          have hr3 : (i : Int) ≤ (D.length : Int) := by omega
          have g1 : IntKind.i64.wrap ((p : Int) + (i : Int)) = (p : Int) + (i : Int) := IntWalk.i64_in _ (by omega)
          have g2 : IntKind.i64.wrap ((p : Int) + (i : Int) + 1) = (p : Int) + (i : Int) + 1 := IntWalk.i64_in _ (by omega)
          clear c2
          go_wp2_with fail
          go_region_with (first
            | (go_at_call 91; refine (c3 _).mono ?_; rintro e w2 ⟨rfl, rfl⟩)
            | fail)
          all_goals
            go_wp2_with fail
            go_meet
            exact ⟨rfl, by simp; omega, 1, Lib.hid rfl⟩
      case rest =>
        obtain ⟨rfl, rfl, q, HW⟩ := hcut
        obtain ⟨we, rfl⟩ : ∃ we : World, we = wc := ⟨_, rfl⟩
        have hce : Chg [] wr we := by
          rw [HW.out, HWQ.out]
          exact ((Chg.refl [] wr).drewN _).drewN _
        have hLe : LnSt we BA BT BS s p := ⟨HL.out.a.chg hce (by simp), HL.out.t.chg hce (by simp), HL.out.s.chg hce (by simp)⟩
        have HLE := Lib.hid hLe
        obtain ⟨fn, tmps, assign, body, hy, hR⟩ := HY.out pre (x1, x2) we HN.out.2.2 HN.out.2.1 (HJ.out pre wr we HP.out (hce.mono (by simp))) (by have := HT.out.2.2; omega)
        simp only at hy
        clear hce hLe cA c1 c2 hx hla hil hDl
        refine ‹∀ (a : Act) (w : World), Code.wp Tryz.prog _ _ a w → _› _ _ ?_
        refine (wpIn_wide (n := 2)).1 ?_
        gi_wp2
        refine hR.mono ?_
        rintro e W3 (⟨rfl, hJ3, hk3⟩ | ⟨rfl, hJx3⟩)
        · have hL3 := HLE.out.kp hk3
          have cA : W3.cell? ⟨BA, 0, none⟩ = some (.int .i64 p) := hL3.a.cell 0
          have fA : W3.frozen? ⟨BA, 0, none⟩ = false := hL3.a.frozen 0
          have HL3 := Lib.hid hL3
          have HJ3 := Lib.hid hJ3
          clear hL3 hJ3 hk3 hR
          gi_wp2
          go_roundw
          case rel =>
            refine ⟨x2, f', pre ++ [(x1, x2)], HN.out.2.1, Lib.hid ⟨HL3.out.a.set 0 _, HL3.out.t.far (p := ⟨BA, 0, none⟩) (fun e => HNE.out.1 e.symm) _, HL3.out.s.far (p := ⟨BA, 0, none⟩) (fun e => HNE.out.2 e.symm) _⟩, Lib.hid (HJ.out _ W3 _ HJ3.out ((Chg.refl [BA] W3).set (.inl (by simp)) _)), Lib.hid ⟨?_, ?_, ?_⟩⟩
            · rw [HT.out.1, HD.out, HST.out, List.append_assoc]
              rfl
            · have h1 := HT.out.2.1
              have h2 := HN.out.1
              omega
            · have h1 := HT.out.2.2
              have h2 := HN.out.1
              rw [List.length_append, List.length_singleton]
              omega
          case measure =>
            have h2 := HN.out.1
            have e1 : posOf BA wr = p := by
              unfold posOf
              rw [show wr.cell? ⟨BA, 0, none⟩ = some (.int .i64 p) from HL.out.a.cell 0]
              simp [intOf]
            have e2 : posOf BA (W3.setCell ⟨BA, 0, none⟩ (.int .i64 (x2 : Nat))) = x2 := by
              unfold posOf
              rw [(HL3.out.a.set 0 (.int .i64 (x2 : Nat))).cell 0]
              simp [intOf]
            rw [e1, e2]
            omega
        · gi_wp2
          refine bodyPost_ret (results_none rfl _ _ _) rfl ⟨⟨_, rfl⟩, .inr ⟨_, ?_, hJx3⟩⟩
          rw [HT.out.1, HD.out, HST.out]
          exact ⟨linesF f' (s.drop x2) x2, by rw [List.append_assoc]; rfl⟩
    · have hpe : p = s.length := by omega
      subst hpe
      go_wp2_with fail
      go_end0
      refine ⟨⟨_, rfl⟩, .inl ⟨_, ?_, HP.out⟩⟩
      have h1 := HT.out.1
      have h2 : linesF f (s.drop s.length) s.length = [] := by
        cases f <;> simp [linesF]
      rw [h1, h2, List.append_nil]

/-- A line, and the place behind it, of a text of at most 2147483648 bytes. -/
abbrev Ln := { x : List UInt8 × Nat // x.1.length ≤ 2147483648 ∧ x.2 ≤ 2147483648 }
theorem lines_stops (s : List UInt8) (hs : s.length ≤ 2147483648) (BA BT BS : Nat) (hne : BA ≠ BT ∧ BA ≠ BS) (w : World) (hL : LnSt w BA BT BS s 0) :
    SeqStopsC Fence.wide 2 Tryz.prog 89 #[.pointer (some ⟨BA, 0, none⟩), .pointer (some ⟨BT, 0, none⟩), .pointer (some ⟨BS, 0, none⟩)] (fun x : Ln => #[.string ⟨x.1.1.toArray⟩, .int .i64 (x.1.2 : Nat)]) (KpL BA BT BS) BA (fun xs => xs.map (·.1) = linesF s.length s 0) (fun pre => ∃ r, pre.map (·.1) ++ r = linesF s.length s 0) s.length w := fun l J Jx W hW hJ hJx hY h0 => by
  have hL2 : LnSt W BA BT BS s 0 := ⟨hL.a.below hW hL.a.lt, hL.t.below hW hL.t.lt, hL.s.below hW hL.s.lt⟩
  refine (lines1_in s (by omega) BA BT BS l hne (fun pre W => ∃ pre' : List Ln, pre'.map (·.1) = pre ∧ J pre' W) (fun pre W => ∃ pre' : List Ln, pre'.map (·.1) = pre ∧ Jx pre' W) ?_ ?_ W hL2 ⟨[], rfl, h0⟩).mono ?_
  · rintro pre A A' ⟨pre', rfl, hj⟩ hc
    exact ⟨pre', rfl, hJ _ A A' hj hc⟩
  · rintro pre x W1 hx1 hx2 ⟨pre', rfl, hj⟩ hlen
    have h := hY pre' ⟨x, by omega, by omega⟩ W1 hj (by simpa using hlen)
    obtain ⟨fn, tmps, assign, body, hy, hR⟩ := h
    refine ⟨fn, tmps, assign, body, hy, hR.mono ?_⟩
    rintro e W' (⟨he, hj', hk⟩ | ⟨he, hj'⟩)
    · exact .inl ⟨he, ⟨_, by simp, hj'⟩, hk⟩
    · exact .inr ⟨he, ⟨_, by simp, hj'⟩⟩
  · rintro e W' ⟨he, ⟨xs, rfl, pre', hm, hj⟩ | ⟨pre, ⟨r, hr⟩, pre', rfl, hj⟩⟩
    · exact ⟨he, .inl ⟨pre', hm, hj⟩⟩
    · exact ⟨he, .inr ⟨pre', ⟨r, hr⟩, hj⟩⟩

end Go.Proofs.YtnfabgbidkddhaaGreatDoor
