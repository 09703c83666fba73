/-
  What Append's last region is shown over: the log's Add at an account, and behind the entries' append; a region of a function's code, picked out.
-/
import Derived.Test.YtmbibhphpjmboaaGreatDoorAppend2
import Derived.Deep.QuietTactic
import Derived.BigQuiet
import Derived.Deep.RegionLaw
import Derived.Deep.DrawnRows
import Derived.Deep.DeepCutAuto
import Derived.Deep.CutBlock
namespace Go.Proofs.YtmbibhphpjmboaaGreatDoor
open Go.Shelf Go.RowKit
attribute [local go_sem ↓] Go.wp_at_zero Go.wp_at_succ

/-- The region of a number within a function's code, where it stands in the outer row. -/
def pickR (n : Nat) : Code → Code
  | .seq (.region k ops d) r => if k = n then .region k ops d else pickR n r
  | .seq _ r => pickR n r
  | .region k ops d => if k = n then .region k ops d else .skip
  | _ => .skip

theorem Try.infoMember2 : (Tryz.prog.info? 71).map (fun i => (i.zero, i.size, i.bytes)) = some (some (.agg #[.int .i64 0, .int .i64 0]), 2, 16) := by kernel_rfl

theorem fresh_new {h8 h2 : Option Nat} {B n8 : Nat} (ho8 : ∀ b, h8 = some b → B ≤ b) (ho9 : h2 = h8 ∨ ∃ g, h2 = some g ∧ n8 ≤ g) (hn : B ≤ n8) : ∀ b, h2 = some b → B ≤ b := by
  intro b hb
  rcases ho9 with h7 | ⟨g7, h7, h8x⟩
  · exact ho8 b (by rw [← h7]; exact hb)
  · rw [h7] at hb
    injection hb with hb
    omega
/-- The log's Add, at an account. -/
theorem addReady {W : World} {g : Nat} {q : Lies} {x : Acc} (h : StoreAt W g q x) (hm1 : 1 ≤ x.log.most) (hm2 : x.log.most ≤ 1099511627776) (hn1 : x.log.es.length ≤ 1099511627776) {e : List E4} {A : Option Addr} {c n : Nat} {hh : Option Nat} (hs : Sl W 117 4 (.slice A n c) hh n (flatE e)) (hn : e.length = n) (hn2 : n ≤ 1099511627776) (hho : ∀ b, hh = some b → b ∉ q.own g) :
    Calls Tryz.prog 44 #[.pointer (some ⟨q.gl, 0, none⟩), .slice A n c] W fun e' w' => e' = .returned (.tuple #[]) ∧ ∃ q'', Turned W w' g q { x with log := x.log.add e } q'' := by
  subst hn
  refine (add_any W q.gl q.hl x.log A c e h.log hm1 hm2 hn1 hn2 (fun hne => ?_)).mono ?_
  · have hpos : 0 < e.length := by
      cases e with
      | nil => exact absurd rfl hne
      | cons y r => simp
    obtain ⟨b, off, cap, hb, hv, _, _, hlt, hat⟩ := hs.at_ hpos
    injection hv with hv1
    refine ⟨b, off, hv1, hlt, fun hm => hho b hb ?_, fun j hj => (hat j hj).1⟩
    rcases List.mem_cons.1 hm with hm | hm
    · rw [hm]
      exact Lies.own_gl
    · exact Lies.own_hl (by simpa using hm)
  · rintro e' w' ⟨rfl, h', hl, hc, ho⟩
    exact ⟨rfl, _, h.setLog hl hc ho⟩

/-- Behind turned and the entries' append. -/
theorem tailB {wg w8 w8' w9 : World} {g : Nat} {q : Lies} {x5 x6 : Acc} {h8 h2 : Option Nat} {e : List E4} {A : Option Addr} {c n : Nat} (hst : StoreAt wg g q x5) (ht8 : Turned wg w8 g q x6 q) (ho8 : ∀ b, h8 = some b → wg.heap.size ≤ b) (hb8 : Below w8.heap.size w8 w8') (hs9 : Sl w9 117 4 (.slice A n c) h2 n (flatE e)) (hc9 : Chg h8.toList w8' w9) (ho9 : h2 = h8 ∨ ∃ g, h2 = some g ∧ w8'.heap.size ≤ g)
    (hn : e.length = n) (hn2 : n ≤ 1099511627776) (hlog : 1 ≤ x6.log.most ∧ x6.log.most ≤ 1099511627776 ∧ x6.log.es.length ≤ 1099511627776) :
    Turned wg w9 g q x6 q ∧ Calls Tryz.prog 44 #[.pointer (some ⟨q.gl, 0, none⟩), .slice A n c] w9 fun e' w' => e' = .returned (.tuple #[]) ∧ ∃ q'', Turned w9 w' g q { x6 with log := x6.log.add e } q'' := by
  have ht9 := (ht8.then_below hb8).newer hst hc9 (fun k hk => ho8 k (by simpa using hk))
  have h9 : wg.heap.size ≤ w8.heap.size := ht8.chg.size
  have h6 := fresh_new ho8 ho9 (Nat.le_trans h9 hb8.size)
  exact ⟨ht9, addReady ht9.at_ hlog.1 hlog.2.1 hlog.2.2 hs9 hn hn2 (fun b hb hm => by
    have h5 := hst.lt b hm
    have h7 := h6 b hb
    omega)⟩


end Go.Proofs.YtmbibhphpjmboaaGreatDoor
