/-
  The walks of law 23's word and awake; words that a law lays.
-/
import Derived.Test.YtnfabgbidkddhaaGreatDoorGRF
namespace Go.Proofs.YtnfabgbidkddhaaGreatDoor
open Go.RowKit
attribute [local go_sem ↓] Go.wp_at_zero Go.wp_at_succ

set_option maxHeartbeats 400000 in
theorem numC_any (n : Int) (w : World) : Calls Tryz.prog 14 #[.int .i64 n] w fun e w' => e = .returned (.int .i64 n) ∧ w = w' := by
  go_enter Tryz.func14, Tryz.ntmps14
  go_wp2
  go_ret
  exact ⟨rfl, rfl⟩

set_option maxHeartbeats 400000 in
theorem word_anyL (s : ByteArray) (w : World) : Calls Tryz.prog 15 #[.string s] w fun e w' => e = .returned (.agg #[.int .i64 1, .string s, .slice none 0 0]) ∧ Below w.heap.size w w' := by
  go_enter Tryz.func15, Tryz.ntmps15
  go_wp2
  try simp only [Exit.inBlock, Exit.then]
  refine bodyPost_ret (v := .agg #[.int .i64 1, .string s, .slice none 0 0]) ?_ rfl ⟨rfl, (Below.refl _ _).alloc (Nat.le_refl _) _⟩
  have hload : (loadVar 41 ⟨w.heap.size, 0, none⟩).run Tryz.prog (w.alloc (.cells #[.int .i64 1, .string s, .slice none 0 0] 41)) = .ok (.agg #[.int .i64 1, .string s, .slice none 0 0]) (w.alloc (.cells #[.int .i64 1, .string s, .slice none 0 0] 41)) := by
    go_simp
  simp [results, asAddr, hload]

/-- Words without words of their own. -/
def flatW (l : List (Int × ByteArray)) : List WT := l.map fun p => .mk p.1 p.2 []
def cellsW : List (Int × ByteArray) → List Value
  | [] => []
  | p :: r => .int .i64 p.1 :: .string p.2 :: .slice none 0 0 :: cellsW r
theorem cellsW_length : ∀ (l : List (Int × ByteArray)), (cellsW l).length = l.length * 3
  | [] => rfl
  | p :: r => by
    have := cellsW_length r
    simp only [cellsW, List.length_cons]
    omega
theorem cellsW_at (w : World) : ∀ (l : List (Int × ByteArray)), CellsAt w (flatW l) (cellsW l)
  | [] => by unfold flatW cellsW; simp [CellsAt]
  | p :: r => by
    have ih := cellsW_at w r
    show CellsAt w (.mk p.1 p.2 [] :: flatW r) (.int .i64 p.1 :: .string p.2 :: .slice none 0 0 :: cellsW r)
    unfold CellsAt
    refine ⟨.slice none 0 0, cellsW r, rfl, ?_, ih⟩
    unfold WAt
    exact ⟨[], ⟨by simp, .inl ⟨rfl, by simp⟩⟩, by unfold CellsAt; rfl⟩
theorem WsAt.of_sl {w : World} {e : TypeId} {v : Value} {h : Option Nat} {n : Nat} (l : List (Int × ByteArray)) (hn : l.length = n) (hs : Sl w e 3 v h n (cellsW l)) : WsAt w v (flatW l) :=
  ⟨cellsW l, by
    have : (flatW l).length = n := by simp [flatW, hn]
    rw [this]
    exact hs.reads [] (by simp), cellsW_at w l⟩
theorem WsAt.lit (w : World) (e : TypeId) (l : List (Int × ByteArray)) (n : Nat) (hn : l.length = n) (hm : n ≤ maxLen) : WsAt (w.alloc (.cells (cellsW l).toArray e)) (.slice (some ⟨w.heap.size, 0, none⟩) n n) (flatW l) :=
  WsAt.of_sl (e := e) (h := some w.heap.size) l hn ⟨by rw [cellsW_length, hn], .inr ⟨_, 0, n, _, rfl, rfl, Blk.new _ _ _, Nat.le_refl _, hm, by simp [cellsW_length, hn], by simp only [List.drop_zero]; rw [List.take_of_length_le (by rw [cellsW_length, hn]; exact Nat.le_refl _)]⟩⟩
theorem okL_flat : ∀ (l : List (Int × ByteArray)), (∀ p ∈ l, p.2.size ≤ 1100) → okL (flatW l)
  | [], _ => by simp [flatW, okL]
  | p :: r, h => by
    show okL (.mk p.1 p.2 [] :: flatW r)
    unfold okL okW
    refine ⟨⟨h p (by simp), by simp [okL]⟩, okL_flat r fun q hq => h q (by simp [hq])⟩
theorem szL_flat : ∀ (l : List (Int × ByteArray)), szL (flatW l) = l.length
  | [] => rfl
  | p :: r => by
    have := szL_flat r
    show szL (.mk p.1 p.2 [] :: flatW r) = _
    unfold szL szW
    rw [this]
    simp [szL]
    omega
/-- No numbers. -/
theorem EAt.none {w : World} (hm : Mx w) (box : Int) : EAt w (.slice Option.none 0 0) ⟨box, []⟩ := ⟨⟨by simp [intC], .inl ⟨rfl, rfl⟩⟩, by simp, by simp, hm⟩

theorem awake_read : readP ⟨1, []⟩ (flatW [(1, ⟨#[83, 69, 69, 78]⟩)]) = ([tmT 6 .empty ⟨#[36, 115, 101, 101, 110]⟩, tmK 1 [0]], false, 0) := by kernel_rfl

set_option maxRecDepth 100000 in
set_option maxHeartbeats 4000000 in
theorem awake_anyL (w : World) (hm : Mx w) : Calls Tryz.prog 10 #[] w fun e w' => e = .returned (.bool true) ∧ Below w.heap.size w w' := by
  have hw := fun s W => word_anyL s W
  have hNu := fun n W => numC_any n W
  have hrd : ∀ W, Below w.heap.size w W → Calls Tryz.prog 11 #[.slice (some ⟨W.heap.size, 0, none⟩) 1 1, .int .i64 1, .slice none 0 0] (W.alloc (.cells #[.int .i64 1, .string ⟨#[83, 69, 69, 78]⟩, .slice none 0 0] 41)) (ROut (W.alloc (.cells #[.int .i64 1, .string ⟨#[83, 69, 69, 78]⟩, .slice none 0 0] 41)) ([tmT 6 .empty ⟨#[36, 115, 101, 101, 110]⟩, tmK 1 [0]], false, 0)) := by
    intro W hb
    have hb2 : Below w.heap.size w (W.alloc (.cells #[.int .i64 1, .string ⟨#[83, 69, 69, 78]⟩, .slice none 0 0] 41)) := hb.alloc hb.size _
    have h := critRead_any (W.alloc (.cells #[.int .i64 1, .string ⟨#[83, 69, 69, 78]⟩, .slice none 0 0] 41)) (.slice (some ⟨W.heap.size, 0, none⟩) 1 1) (.slice none 0 0) ⟨1, []⟩ (flatW [(1, ⟨#[83, 69, 69, 78]⟩)]) (WsAt.lit W 41 [(1, ⟨#[83, 69, 69, 78]⟩)] 1 rfl (by decide)) (okL_flat _ (by decide)) (EAt.none (hm.below hb2) 1) (by rw [szL_flat]; decide)
    rw [awake_read] at h
    exact h
  go_enter Tryz.func10, Tryz.ntmps10
  go_wp2_with (first
    | (go_at_call 15; refine (hw _ _).mono ?_; rintro e w1 ⟨rfl, hb1⟩; have HB1 := Lib.hid hb1; clear hb1)
    | (go_at_call 11; refine (hrd _ HB1.out).mono ?_; rintro e w2 ⟨ov, hb, xs, F, rfl, hs, hx, hb2⟩; have HB2 := Lib.hid ((HB1.out.alloc HB1.out.size _).trans (hb2.mono (by simp; have := HB1.out.size; omega))); have HS := Lib.hid hs; have HX := Lib.hid hx; clear hb2 hs hx hrd)
    | (go_at_call 14; refine (hNu _ _).mono ?_; rintro e wn ⟨rfl, rfl⟩; obtain ⟨b, off, cap, hh, hv, _, _, _, hat⟩ := HS.out.at_ (by decide); subst hv; obtain ⟨sv, kv, rest, hxs, _, hx2⟩ := HX.out; obtain ⟨sv2, kv2, rest2, hxs2, _, _⟩ := hx2; rw [hxs, hxs2] at hat; have q0 : w2.cell? ⟨b, off, none⟩ = some (.int .i64 6) := (hat 0 (by decide)).1; have q6 : w2.cell? ⟨b, off + 6, none⟩ = some (.int .i64 1) := (hat 6 (by decide)).1; clear hat hxs hxs2)
    | fail)
  go_ret
  exact ⟨rfl, HB2.out⟩

end Go.Proofs.YtnfabgbidkddhaaGreatDoor
