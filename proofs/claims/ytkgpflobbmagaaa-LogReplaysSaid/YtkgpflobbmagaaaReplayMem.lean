/-
  Memory in LogReplays: the log, what there is, what there was.
-/
import Derived.Test.YtkgpflobbmagaaaReplayApply
import Derived.Laws.Rows
import Derived.Laws.Tables
namespace Go.Proofs.Ytkgpflobbmagaaa
open Go.RowKit

theorem arr16_size (th : Mods) : (arr16 th).size = 16 := by simp [arr16]
theorem Try.size16 (th : Mods) : (Try.prog.info? 37).map (·.size) = some (arr16 th).size := by
  rw [arr16_size]
  kernel_rfl
theorem arr16_one (th : Mods) : (arr16 th).all (·.oneCell') = true := by
  rw [Array.all_eq_true_iff_forall_mem]
  intro x hx
  simp only [arr16, List.mem_toArray, List.mem_map] at hx
  obtain ⟨k, _, rfl⟩ := hx
  rfl

theorem Blk.setRow {w : World} {g : Nat} {t : TypeId} {old : Array Value} (h : Blk w g t old) (cs : Array Value) : Blk (w.setRow g cs) g t cs := by
  unfold Blk at h ⊢
  exact setRow_heap w g old cs t (0, 0) h
theorem setRow_far (w : World) (g : Nat) (cs : Array Value) (k : Nat) (hk : k ≠ g) : (w.setRow g cs).heap[k]? = w.heap[k]? := by
  simp only [World.setRow, Array.getElem?_modify]
  rw [if_neg (fun e => hk e.symm)]
theorem setRow_chg (w : World) (g : Nat) (cs : Array Value) : Chg [g] w (w.setRow g cs) :=
  ⟨rfl, rfl, rfl, by simp [World.setRow], fun k _ hk => setRow_far w g cs k (by simpa using hk)⟩

structure RpR (w wr : World) (g : Nat) (h : Option Nat) (N T : Nat) (x : LogV) (nw th : Mods) : Prop where
  log : OwnLog w wr g h x
  bN : Blk wr N 37 (arr16 nw)
  bT : Blk wr T 37 (arr16 th)
  ne : N ≠ T
  oN : w.heap.size ≤ N
  oT : w.heap.size ≤ T

section
variable {w wr w' : World} {g : Nat} {h h' : Option Nat} {N T O : Nat} {x y : LogV} {nw th old : Mods}
theorem OwnLog.apart (q : OwnLog w wr g h x) {t : TypeId} {cs : Array Value} {b : Nat} (hB : Blk wr b t cs) (h1 : t ≠ 82) (h2 : t ≠ 42) : b ∉ g :: h.toList := by
  obtain ⟨v, hL, hs⟩ := q.log
  intro hm
  simp at hm
  rcases hm with h3 | h3
  · exact hB.ne hL h1 h3
  · exact hs.ne_blk hB (fun e => h2 e.symm) b h3 rfl
theorem OwnLog.far {S : List Nat} (q : OwnLog w wr g h x) (hc : Chg S wr w') (hS : ∀ b ∈ S, w.heap.size ≤ b ∧ b ∉ g :: h.toList) : OwnLog w w' g h x := by
  refine ⟨q.log.chg hc (fun hm => (hS g hm).2 (by simp)) (fun b hb hm => (hS b hm).2 (by simp [hb])), q.below.trans (hc.below q.below.size (fun b hb => (hS b hb).1)), q.og, q.oh⟩
theorem RpR.add (q : RpR w wr g h N T x nw th) (hq : OwnLog w w' g h' y) (hc : Chg (g :: h.toList) wr w') : RpR w w' g h' N T y nw th :=
  ⟨hq, q.bN.chg hc (q.log.apart q.bN (by decide) (by decide)), q.bT.chg hc (q.log.apart q.bT (by decide) (by decide)), q.ne, q.oN, q.oT⟩
theorem RpR.row (q : RpR w wr g h N T x nw th) : RpR w (wr.setRow T (arr16 nw)) g h N T x nw nw :=
  ⟨q.log.far (setRow_chg wr T _) (by simp; exact ⟨q.oT, by simpa using q.log.apart q.bT (by decide) (by decide)⟩), q.bN.chg (setRow_chg wr T _) (by simpa using q.ne), q.bT.setRow _, q.ne, q.oN, q.oT⟩
theorem set_chg (wr : World) (N k : Nat) (u : Value) : Chg [N] wr (wr.setCell ⟨N, k, none⟩ u) := (Chg.refl [N] wr).set (.inl (by simp)) u
theorem RpR.setN (q : RpR w wr g h N T x nw th) (k : Nat) (hk : k < 16) (c : Int) : RpR w (wr.setCell ⟨N, k, none⟩ (.int .i64 c)) g h N T x (upd16 nw k c) th :=
  ⟨q.log.far (set_chg wr N k _) (by simp; exact ⟨q.oN, by simpa using q.log.apart q.bN (by decide) (by decide)⟩), by rw [← arr16_set nw k c hk]; exact q.bN.set k _, q.bT.chg (set_chg wr N k _) (by simpa using fun e => q.ne e.symm), q.ne, q.oN, q.oT⟩
theorem RpR.start {w w1 : World} (hq : OwnLog w w1 g h x) : RpR w ((w1.alloc (.cells (arr16 fun _ => 0) 37)).alloc (.cells (arr16 fun _ => 0) 37)) g h w1.heap.size (w1.heap.size + 1) x (fun _ => 0) (fun _ => 0) := by
  have hs := hq.below.size
  refine ⟨(hq.alloc _).alloc _, (Blk.new _ _ _).alloc _, ?_, by omega, by omega, by omega⟩
  have := Blk.new (w1.alloc (.cells (arr16 fun _ => 0) 37)) 37 (arr16 fun _ => 0)
  simpa using this

/-- With what there was at first. -/
structure RpS (w wr : World) (g : Nat) (h : Option Nat) (N T O : Nat) (x : LogV) (nw th old : Mods) : Prop where
  r : RpR w wr g h N T x nw th
  bO : Blk wr O 37 (arr16 old)
  neN : N ≠ O
  neT : T ≠ O
theorem RpR.later (q : RpR w wr g h N T x nw th) (hb : Below wr.heap.size wr w') : RpR w w' g h N T x nw th :=
  ⟨q.log.later hb, q.bN.below hb q.bN.lt, q.bT.below hb q.bT.lt, q.ne, q.oN, q.oT⟩
theorem RpS.later (q : RpS w wr g h N T O x nw th old) (hb : Below wr.heap.size wr w') : RpS w w' g h N T O x nw th old :=
  ⟨q.r.later hb, q.bO.below hb q.bO.lt, q.neN, q.neT⟩
theorem RpS.alloc (q : RpS w wr g h N T O x nw th old) (o : Obj) : RpS w (wr.alloc o) g h N T O x nw th old := q.later ((Below.refl _ _).alloc (Nat.le_refl _) o)
theorem RpS.drewN (q : RpS w wr g h N T O x nw th old) (n : Nat) : RpS w (wr.drewN n) g h N T O x nw th old :=
  ⟨⟨q.r.log.heap rfl rfl rfl rfl, q.r.bN.heap rfl, q.r.bT.heap rfl, q.r.ne, q.r.oN, q.r.oT⟩, q.bO.heap rfl, q.neN, q.neT⟩
theorem RpS.applied {th' : Mods} (q : RpS w wr g h N T O x nw th old) (hB : Blk w' T 37 (arr16 th')) (hc : Chg [T] wr w') : RpS w w' g h N T O x nw th' old :=
  ⟨⟨q.r.log.far hc (by simp; exact ⟨q.r.oT, by simpa using q.r.log.apart q.r.bT (by decide) (by decide)⟩), q.r.bN.chg hc (by simpa using q.r.ne), hB, q.r.ne, q.r.oN, q.r.oT⟩, q.bO.chg hc (by simpa using fun e => q.neT e.symm), q.neN, q.neT⟩
theorem RpR.kept (q : RpR w wr g h N T x nw th) : RpS w ((wr.alloc (.cells (arr16 fun _ => 0) 37)).setRow wr.heap.size (arr16 th)) g h N T wr.heap.size x nw th th := by
  have hN := q.bN.lt
  have hT := q.bT.lt
  have hB : Below wr.heap.size wr ((wr.alloc (.cells (arr16 fun _ => 0) 37)).setRow wr.heap.size (arr16 th)) :=
    (((Chg.refl [wr.heap.size] wr).alloc _).trans (setRow_chg _ _ _) (by simp)).below (Nat.le_refl _) (by simp)
  exact ⟨q.later hB, (Blk.new _ _ _).setRow _, by omega, by omega⟩
end

/-! ### The steps -/
theorem nowAt_step (sp : Nat → Nat × Nat) (k K : Nat) (hK : (sp k).1 % 16 = K) (h : howAt sp k ≠ 3) : upd16 (nowAt sp k) K ((k : Int) + 2) = nowAt sp (k + 1) := by
  subst hK
  funext j
  unfold upd16
  simp only [nowAt, rNow]
  have : rHow (nowAt sp k) (sp k) ≠ 3 := h
  rw [if_neg this]
theorem nowAt_step3 (sp : Nat → Nat × Nat) (k K : Nat) (hK : (sp k).1 % 16 = K) (h : howAt sp k = 3) : upd16 (upd16 (nowAt sp k) K ((k : Int) + 2)) K 0 = nowAt sp (k + 1) := by
  subst hK
  funext j
  unfold upd16
  simp only [nowAt, rNow]
  have : rHow (nowAt sp k) (sp k) = 3 := h
  rw [if_pos this]
  split <;> rfl
/-- What then holds behind k steps. -/
def thAt (sp : Nat → Nat × Nat) (p k : Nat) : Mods := if p < k then nowAt sp p else fun _ => 0

/-- Who goes by the lists holds what there is. -/
structure Agree (sp : Nat → Nat × Nat) (q : Nat) (th : Mods) : Prop where
  nn : ∀ k, k < 16 → 0 ≤ th k
  iff : ∀ k, k < 16 → (th k = 0 ↔ nowAt sp q k = 0)
theorem Agree.start (sp : Nat → Nat × Nat) (p : Nat) : Agree sp p (nowAt sp p) := ⟨fun k _ => nowAt_nonneg sp p k, fun _ _ => Iff.rfl⟩
theorem Agree.fits {sp : Nat → Nat × Nat} {q q' : Nat} {th : Mods} {t : Told} (a : Agree sp q th) (o : ToldOk sp q q' t) : Fits t th := by
  refine ⟨fun k hk h => ⟨fun h2 => ?_, fun h2 => ?_⟩, fun k hk h => ⟨fun h2 => ?_, fun h2 => ?_⟩⟩
  · exact (o.turned k hk h2).1 (o.made k hk h).1
  · exact (o.gone k hk h2).1 (o.made k hk h).1
  · exact (o.turned k hk h).2 (o.gone k hk h2).2
  · exact (o.turned k hk h).1 ((a.iff k hk).1 h2)
theorem Agree.apply {sp : Nat → Nat × Nat} {q q' : Nat} {th : Mods} {t : Told} {st : Int} (a : Agree sp q th) (o : ToldOk sp q q' t) (hst : 0 < st) : Agree sp q' (applyT t st th) := by
  refine ⟨fun k hk => ?_, fun k hk => ?_⟩ <;> unfold applyT
  · split
    · exact Int.le_refl 0
    · split
      · omega
      · exact a.nn k hk
  · split
    · rename_i h
      simp [(o.gone k hk h).2]
    · rename_i h
      split
      · rename_i h2
        rcases h2 with h2 | h2
        · have := (o.turned k hk h2).2
          constructor <;> intro h3 <;> first | omega | exact absurd h3 this
        · have := (o.made k hk h2).2
          constructor <;> intro h3 <;> first | omega | exact absurd h3 this
      · rename_i h2
        rw [a.iff k hk]
        rcases o.none_ k hk (fun h3 => h2 (.inr h3)) (fun h3 => h2 (.inl h3)) h with h3 | ⟨h3, h4⟩
        · rw [h3]
        · simp [h3, h4]

end Go.Proofs.Ytkgpflobbmagaaa
