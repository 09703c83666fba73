/-
  The walks of law 23's word and awake; words that a law lays.
  What filters of days tell, plain.
  What filters of flags tell, plain.
  What sets of places and of Uids tell, plain.
-/
import Derived.Test.YtnfabgbidkddhaaGreatDoorCritReadM
import Derived.Test.YtnfabgbidkddhaaGreatDoorHoldsWM
import Derived.Test.YtnfabgbidkddhaaGreatDoorGCX
namespace Go.Proofs.YtnfabgbidkddhaaGreatDoor
open Go.RowKit
attribute [local go_sem ↓] Go.wp_at_zero Go.wp_at_succ

set_option maxHeartbeats 400000 in
theorem numC_any (n : Int) (w : World) : Calls Tryz.prog 14 #[.int .i64 n] w fun e w' => e = .returned (.int .i64 n) ∧ w = w' := by
  go_enter Tryz.func14, Tryz.ntmps14
  go_wp2
  go_ret
  exact ⟨rfl, rfl⟩

set_option maxHeartbeats 400000 in
theorem word_anyL (s : ByteArray) (w : World) : Calls Tryz.prog 15 #[.string s] w fun e w' => e = .returned (.agg #[.int .i64 1, .string s, .slice none 0 0]) ∧ Below w.heap.size w w' := by
  go_enter Tryz.func15, Tryz.ntmps15
  go_wp2
  try simp only [Exit.inBlock, Exit.then]
  refine bodyPost_ret (v := .agg #[.int .i64 1, .string s, .slice none 0 0]) ?_ rfl ⟨rfl, (Below.refl _ _).alloc (Nat.le_refl _) _⟩
  have hload : (loadVar 41 ⟨w.heap.size, 0, none⟩).run Tryz.prog (w.alloc (.cells #[.int .i64 1, .string s, .slice none 0 0] 41)) = .ok (.agg #[.int .i64 1, .string s, .slice none 0 0]) (w.alloc (.cells #[.int .i64 1, .string s, .slice none 0 0] 41)) := by
    go_simp
  simp [results, asAddr, hload]

/-- Words without words of their own. -/
def flatW (l : List (Int × ByteArray)) : List WT := l.map fun p => .mk p.1 p.2 []
def cellsW : List (Int × ByteArray) → List Value
  | [] => []
  | p :: r => .int .i64 p.1 :: .string p.2 :: .slice none 0 0 :: cellsW r
theorem cellsW_length : ∀ (l : List (Int × ByteArray)), (cellsW l).length = l.length * 3
  | [] => rfl
  | p :: r => by
    have := cellsW_length r
    simp only [cellsW, List.length_cons]
    omega
theorem cellsW_at (w : World) : ∀ (l : List (Int × ByteArray)), CellsAt w (flatW l) (cellsW l)
  | [] => by unfold flatW cellsW; simp [CellsAt]
  | p :: r => by
    have ih := cellsW_at w r
    show CellsAt w (.mk p.1 p.2 [] :: flatW r) (.int .i64 p.1 :: .string p.2 :: .slice none 0 0 :: cellsW r)
    unfold CellsAt
    refine ⟨.slice none 0 0, cellsW r, rfl, ?_, ih⟩
    unfold WAt
    exact ⟨[], ⟨by simp, .inl ⟨rfl, by simp⟩⟩, by unfold CellsAt; rfl⟩
theorem WsAt.of_sl {w : World} {e : TypeId} {v : Value} {h : Option Nat} {n : Nat} (l : List (Int × ByteArray)) (hn : l.length = n) (hs : Sl w e 3 v h n (cellsW l)) : WsAt w v (flatW l) :=
  ⟨cellsW l, by
    have : (flatW l).length = n := by simp [flatW, hn]
    rw [this]
    exact hs.reads [] (by simp), cellsW_at w l⟩
theorem WsAt.lit (w : World) (e : TypeId) (l : List (Int × ByteArray)) (n : Nat) (hn : l.length = n) (hm : n ≤ maxLen) : WsAt (w.alloc (.cells (cellsW l).toArray e)) (.slice (some ⟨w.heap.size, 0, none⟩) n n) (flatW l) :=
  WsAt.of_sl (e := e) (h := some w.heap.size) l hn ⟨by rw [cellsW_length, hn], .inr ⟨_, 0, n, _, rfl, rfl, Blk.new _ _ _, Nat.le_refl _, hm, by simp [cellsW_length, hn], by simp only [List.drop_zero]; rw [List.take_of_length_le (by rw [cellsW_length, hn]; exact Nat.le_refl _)]⟩⟩
theorem okL_flat : ∀ (l : List (Int × ByteArray)), (∀ p ∈ l, p.2.size ≤ 1100) → okL (flatW l)
  | [], _ => by simp [flatW, okL]
  | p :: r, h => by
    show okL (.mk p.1 p.2 [] :: flatW r)
    unfold okL okW
    refine ⟨⟨h p (by simp), by simp [okL]⟩, okL_flat r fun q hq => h q (by simp [hq])⟩
theorem szL_flat : ∀ (l : List (Int × ByteArray)), szL (flatW l) = l.length
  | [] => rfl
  | p :: r => by
    have := szL_flat r
    show szL (.mk p.1 p.2 [] :: flatW r) = _
    unfold szL szW
    rw [this]
    simp [szL]
    omega
/-- No numbers. -/
theorem EAt.none {w : World} (hm : Mx w) (box : Int) : EAt w (.slice Option.none 0 0) ⟨box, []⟩ := ⟨⟨by simp [intC], .inl ⟨rfl, rfl⟩⟩, by simp, by simp, hm⟩

theorem awake_read : readP ⟨1, []⟩ (flatW [(1, ⟨#[83, 69, 69, 78]⟩)]) = ([tmT 6 .empty ⟨#[36, 115, 101, 101, 110]⟩, tmK 1 [0]], false, 0) := by kernel_rfl

set_option maxRecDepth 100000 in
set_option maxHeartbeats 4000000 in
theorem awake_anyL (w : World) (hm : Mx w) : Calls Tryz.prog 10 #[] w fun e w' => e = .returned (.bool true) ∧ Below w.heap.size w w' := by
  have hw := fun s W => word_anyL s W
  have hNu := fun n W => numC_any n W
  have hrd : ∀ W, Below w.heap.size w W → Calls Tryz.prog 11 #[.slice (some ⟨W.heap.size, 0, none⟩) 1 1, .int .i64 1, .slice none 0 0] (W.alloc (.cells #[.int .i64 1, .string ⟨#[83, 69, 69, 78]⟩, .slice none 0 0] 41)) (ROut (W.alloc (.cells #[.int .i64 1, .string ⟨#[83, 69, 69, 78]⟩, .slice none 0 0] 41)) ([tmT 6 .empty ⟨#[36, 115, 101, 101, 110]⟩, tmK 1 [0]], false, 0)) := by
    intro W hb
    have hb2 : Below w.heap.size w (W.alloc (.cells #[.int .i64 1, .string ⟨#[83, 69, 69, 78]⟩, .slice none 0 0] 41)) := hb.alloc hb.size _
    have h := critRead_any (W.alloc (.cells #[.int .i64 1, .string ⟨#[83, 69, 69, 78]⟩, .slice none 0 0] 41)) (.slice (some ⟨W.heap.size, 0, none⟩) 1 1) (.slice none 0 0) ⟨1, []⟩ (flatW [(1, ⟨#[83, 69, 69, 78]⟩)]) (WsAt.lit W 41 [(1, ⟨#[83, 69, 69, 78]⟩)] 1 rfl (by decide)) (okL_flat _ (by decide)) (EAt.none (hm.below hb2) 1) (by rw [szL_flat]; decide)
    rw [awake_read] at h
    exact h
  go_enter Tryz.func10, Tryz.ntmps10
  go_wp2_with (first
    | (go_at_call 15; refine (hw _ _).mono ?_; rintro e w1 ⟨rfl, hb1⟩; have HB1 := Lib.hid hb1; clear hb1)
    | (go_at_call 11; refine (hrd _ HB1.out).mono ?_; rintro e w2 ⟨ov, hb, xs, F, rfl, hs, hx, hb2⟩; have HB2 := Lib.hid ((HB1.out.alloc HB1.out.size _).trans (hb2.mono (by simp; have := HB1.out.size; omega))); have HS := Lib.hid hs; have HX := Lib.hid hx; clear hb2 hs hx hrd)
    | (go_at_call 14; refine (hNu _ _).mono ?_; rintro e wn ⟨rfl, rfl⟩; obtain ⟨b, off, cap, hh, hv, _, _, _, hat⟩ := HS.out.at_ (by decide); subst hv; obtain ⟨sv, kv, rest, hxs, _, hx2⟩ := HX.out; obtain ⟨sv2, kv2, rest2, hxs2, _, _⟩ := hx2; rw [hxs, hxs2] at hat; have q0 : w2.cell? ⟨b, off, none⟩ = some (.int .i64 6) := (hat 0 (by decide)).1; have q6 : w2.cell? ⟨b, off + 6, none⟩ = some (.int .i64 1) := (hat 6 (by decide)).1; clear hat hxs hxs2)
    | fail)
  go_ret
  exact ⟨rfl, HB2.out⟩

end Go.Proofs.YtnfabgbidkddhaaGreatDoor

namespace Go.Proofs.YtnfabgbidkddhaaGreatDoor
open Go.RowKit

deriving instance DecidableEq for Tm
/-- The day's word: two digits, and the rest. -/
def dayT (d : Nat) : ByteArray := ⟨#[UInt8.ofNat (48 + d / 10), UInt8.ofNat (48 + d % 10), 45, 74, 97, 110, 45, 49, 57, 55, 48]⟩
def onW : ByteArray := ⟨#[79, 78]⟩
def sinceW : ByteArray := ⟨#[83, 73, 78, 67, 69]⟩
def beforeW : ByteArray := ⟨#[66, 69, 70, 79, 82, 69]⟩
def onF (d : Nat) : Out := [tmN 8 (86400 * ((d : Int) - 1)), tmN 7 (86400 * (d : Int)), tmK 1 [0, 1], tmK 1 [2]]
def sinceF (d : Nat) : Out := [tmN 8 (86400 * ((d : Int) - 1)), tmK 1 [0]]
def beforeF (d : Nat) : Out := [tmN 7 (86400 * ((d : Int) - 1)), tmK 1 [0]]
theorem on_read : ∀ d, d < 29 → 1 ≤ d → readP ⟨1, []⟩ (flatW [(1, onW), (1, dayT d)]) = (onF d, false, 0) := by decide +kernel
theorem since_read : ∀ d, d < 29 → 1 ≤ d → readP ⟨1, []⟩ (flatW [(1, sinceW), (1, dayT d)]) = (sinceF d, false, 0) := by decide +kernel
theorem before_read : ∀ d, d < 29 → 1 ≤ d → readP ⟨1, []⟩ (flatW [(1, beforeW), (2, dayT d)]) = (beforeF d, false, 0) := by decide +kernel
theorem days_good : ∀ d, d < 29 → 1 ≤ d → goodF (onF d) = true ∧ goodF (sinceF d) = true ∧ goodF (beforeF d) = true := by decide +kernel

theorem days_kids : ∀ d, d < 29 → (∀ t ∈ onF d, t.kids.length ≤ 1000000) ∧ (∀ t ∈ sinceF d, t.kids.length ≤ 1000000) ∧ (∀ t ∈ beforeF d, t.kids.length ≤ 1000000) := by decide +kernel
theorem dayT_size (d : Nat) : (dayT d).size = 11 := rfl

theorem holdsP_succ {e : Em} {f : Out} {n i : Nat} {t : Tm} (h : f[i]? = some t) : holdsP e f (n + 1) i = (
      if t.kind = 1 then t.kids.all fun k => holdsP e f n k.toNat
      else if t.kind = 2 then t.kids.any fun k => holdsP e f n k.toNat
      else if t.kind = 3 then !(t.kids.any fun k => holdsP e f n k.toNat)
      else if t.kind = 4 then e.mem.any fun m => (m.1 == t.n) != false
      else if t.kind = 5 then e.mem.any fun m => (m.1 == t.n) != true
      else if t.kind = 6 then e.keys.any fun k => k == t.text
      else if t.kind = 7 then decide (e.sec < t.n)
      else if t.kind = 8 then decide (t.n ≤ e.sec)
      else if t.kind = 9 then decide (t.n ≤ (e.text.length : Nat))
      else if t.kind = 10 then decide (((e.text.length : Nat) : Int) < t.n)
      else if t.kind = 14 then e.mem.any fun m => m.1 == t.n && inL t.set m.2
      else if t.kind = 15 then decide (t.n ≤ e.mod)
      else false) := by
  show (match f[i]? with | none => false | some t => _) = _
  rw [h]
theorem holdsP_and {e : Em} {f : Out} {n i : Nat} {ks : List Int} (h : f[i]? = some (tmK 1 ks)) : holdsP e f (n + 1) i = ks.all fun k => holdsP e f n k.toNat := by
  rw [holdsP_succ h]
  rfl
theorem holdsP_or {e : Em} {f : Out} {n i : Nat} {ks : List Int} (h : f[i]? = some (tmK 2 ks)) : holdsP e f (n + 1) i = ks.any fun k => holdsP e f n k.toNat := by
  rw [holdsP_succ h]
  rfl
theorem holdsP_not {e : Em} {f : Out} {n i : Nat} {ks : List Int} (h : f[i]? = some (tmK 3 ks)) : holdsP e f (n + 1) i = !(ks.any fun k => holdsP e f n k.toNat) := by
  rw [holdsP_succ h]
  rfl
theorem holdsP_before {e : Em} {f : Out} {n i : Nat} {a : Int} (h : f[i]? = some (tmN 7 a)) : holdsP e f (n + 1) i = decide (e.sec < a) := by
  rw [holdsP_succ h]
  rfl
theorem holdsP_after {e : Em} {f : Out} {n i : Nat} {a : Int} (h : f[i]? = some (tmN 8 a)) : holdsP e f (n + 1) i = decide (a ≤ e.sec) := by
  rw [holdsP_succ h]
  rfl
theorem holdsP_key {e : Em} {f : Out} {n i : Nat} {a b : ByteArray} (h : f[i]? = some (tmT 6 a b)) : holdsP e f (n + 1) i = e.keys.any fun k => k == b := by
  rw [holdsP_succ h]
  rfl

theorem holds_on (e : Em) (d : Nat) : HoldsP e (onF d) = (decide (86400 * ((d : Int) - 1) ≤ e.sec) && decide (e.sec < 86400 * (d : Int))) := by
  have hr : rightP (onF d) = true := rfl
  unfold HoldsP
  rw [hr, Bool.true_and]
  show (false || holdsP e (onF d) 4 3) = _
  rw [holdsP_and (ks := [2]) rfl]
  show (false || (holdsP e (onF d) 3 2 && true)) = _
  rw [holdsP_and (ks := [0, 1]) rfl]
  show (false || ((holdsP e (onF d) 2 0 && (holdsP e (onF d) 2 1 && true)) && true)) = _
  rw [holdsP_after rfl, holdsP_before rfl]
  simp
theorem holds_since (e : Em) (d : Nat) : HoldsP e (sinceF d) = decide (86400 * ((d : Int) - 1) ≤ e.sec) := by
  have hr : rightP (sinceF d) = true := rfl
  unfold HoldsP
  rw [hr, Bool.true_and]
  show (false || holdsP e (sinceF d) 2 1) = _
  rw [holdsP_and (ks := [0]) rfl]
  show (false || (holdsP e (sinceF d) 1 0 && true)) = _
  rw [holdsP_after rfl]
  simp
theorem holds_before (e : Em) (d : Nat) : HoldsP e (beforeF d) = decide (e.sec < 86400 * ((d : Int) - 1)) := by
  have hr : rightP (beforeF d) = true := rfl
  unfold HoldsP
  rw [hr, Bool.true_and]
  show (false || holdsP e (beforeF d) 2 1) = _
  rw [holdsP_and (ks := [0]) rfl]
  show (false || (holdsP e (beforeF d) 1 0 && true)) = _
  rw [holdsP_before rfl]
  simp

theorem RdS.no (w : World) (s : Nat) : RdS w [] s (.slice none 0 0) 0 [] := ⟨by simp, .inl ⟨rfl, rfl⟩⟩
theorem okL_two {a b : Int} {x y : ByteArray} (hx : x.size ≤ 1100) (hy : y.size ≤ 1100) : okL (flatW [(a, x), (b, y)]) := okL_flat _ (by
  intro p hp
  rcases List.mem_cons.1 hp with rfl | hp
  · exact hx
  · obtain rfl := List.mem_singleton.1 hp
    exact hy)
/-- An email of a second, of some keywords, of nothing else. -/
def emS (sec : Int) (keys : List ByteArray) : Em := ⟨sec, 0, [], keys, []⟩
theorem holds_emS (w : World) (sec : Int) (f : Out) (v : Value) (hf : FAt w v f) (hg : goodF f = true) (hkids : ∀ t ∈ f, t.kids.length ≤ 1000000) (hl : f.length ≤ 1000) :
    Calls Tryz.prog 16 #[v, .agg #[.int .i64 1, .int .i64 0, .string ⟨#[]⟩, .int .i64 sec, .slice none 0 0, .slice none 0 0, .int .i64 0, .int .i64 0]] w fun en w' => en = .returned (.bool (HoldsP (emS sec []) f)) ∧ Below w.heap.size w w' :=
  holds_anyH w (emS sec []) f v 1 0 0 (.slice none 0 0) (.slice none 0 0) (by simp [emS]) (RdS.no w 1) (RdS.no w 2) hf hg hkids hl

end Go.Proofs.YtnfabgbidkddhaaGreatDoor

namespace Go.Proofs.YtnfabgbidkddhaaGreatDoor
open Go.RowKit

/-- The flags' words: small, of mixed sizes; their keywords. -/
def lowFl : List ByteArray := [⟨#[97, 110, 115, 119, 101, 114, 101, 100]⟩, ⟨#[100, 101, 108, 101, 116, 101, 100]⟩, ⟨#[100, 114, 97, 102, 116]⟩, ⟨#[102, 108, 97, 103, 103, 101, 100]⟩, ⟨#[115, 101, 101, 110]⟩]
def upFl : List ByteArray := [⟨#[65, 110, 115, 119, 101, 114, 101, 100]⟩, ⟨#[68, 69, 76, 69, 84, 69, 68]⟩, ⟨#[100, 114, 97, 102, 84]⟩, ⟨#[70, 76, 65, 71, 103, 101, 100]⟩, ⟨#[83, 69, 69, 78]⟩]
def lowF5 (f : Nat) : ByteArray := lowFl.getD f .empty
def upF5 (f : Nat) : ByteArray := upFl.getD f .empty
def keyF5 (f : Nat) : ByteArray := ⟨#[36]⟩ ++ lowF5 f
def flagA (K : ByteArray) : Out := [tmT 6 .empty K, tmK 1 [0]]
def flagB (K : ByteArray) : Out := [tmT 6 .empty K, tmK 3 [0], tmK 1 [1]]
def flagD (K : ByteArray) : Out := [tmT 6 .empty K, tmT 6 .empty K, tmK 3 [1], tmK 2 [0, 2], tmK 1 [3]]
theorem flag_readA : ∀ f, f < 5 → readP ⟨1, []⟩ (flatW [(1, upF5 f)]) = (flagA (keyF5 f), false, 0) := by decide +kernel
theorem flag_readB : ∀ f, f < 5 → readP ⟨1, []⟩ (flatW [(1, ⟨#[85, 78]⟩ ++ upF5 f)]) = (flagB (keyF5 f), false, 0) := by decide +kernel
theorem flag_readC : ∀ f, f < 5 → readP ⟨1, []⟩ (flatW [(1, ⟨#[107, 101, 121, 119, 111, 114, 100]⟩), (1, ⟨#[92]⟩ ++ upF5 f)]) = (flagA (keyF5 f), false, 0) := by decide +kernel
theorem flag_readD : ∀ f, f < 5 → readP ⟨1, []⟩ (flatW [(1, ⟨#[111, 114]⟩), (1, upF5 f), (1, ⟨#[117, 110]⟩ ++ lowF5 f)]) = (flagD (keyF5 f), false, 0) := by decide +kernel
theorem flag_good (K : ByteArray) : goodF (flagA K) = true ∧ goodF (flagB K) = true ∧ goodF (flagD K) = true := ⟨rfl, rfl, rfl⟩
theorem flag_kids (K : ByteArray) : (∀ t ∈ flagA K, t.kids.length ≤ 1000000) ∧ (∀ t ∈ flagB K, t.kids.length ≤ 1000000) ∧ (∀ t ∈ flagD K, t.kids.length ≤ 1000000) := by
  simp [flagA, flagB, flagD, tmT, tmK]
theorem flag_sizes : ∀ f, f < 5 → (upF5 f).size ≤ 8 ∧ (lowF5 f).size ≤ 8 ∧ (keyF5 f).size ≤ 9 := by decide +kernel
theorem key_eq : ∀ f, f < 5 → ∀ j, j < 5 → (keyF5 j == keyF5 f) = (j == f) := by decide +kernel

theorem holds_flagA (e : Em) (K : ByteArray) : HoldsP e (flagA K) = e.keys.any fun k => k == K := by
  have hr : rightP (flagA K) = true := rfl
  unfold HoldsP
  rw [hr, Bool.true_and]
  show (false || holdsP e (flagA K) 2 1) = _
  rw [holdsP_and (ks := [0]) rfl]
  show (false || (holdsP e (flagA K) 1 0 && true)) = _
  rw [holdsP_key rfl]
  simp
theorem holds_flagB (e : Em) (K : ByteArray) : HoldsP e (flagB K) = !(e.keys.any fun k => k == K) := by
  have hr : rightP (flagB K) = true := rfl
  unfold HoldsP
  rw [hr, Bool.true_and]
  show (false || holdsP e (flagB K) 3 2) = _
  rw [holdsP_and (ks := [1]) rfl]
  show (false || (holdsP e (flagB K) 2 1 && true)) = _
  rw [holdsP_not (ks := [0]) rfl]
  show (false || (!(holdsP e (flagB K) 1 0 || false) && true)) = _
  rw [holdsP_key rfl]
  simp
theorem holds_flagD (e : Em) (K : ByteArray) : HoldsP e (flagD K) = true := by
  have hr : rightP (flagD K) = true := rfl
  unfold HoldsP
  rw [hr, Bool.true_and]
  show (false || holdsP e (flagD K) 5 4) = _
  rw [holdsP_and (ks := [3]) rfl]
  show (false || (holdsP e (flagD K) 4 3 && true)) = _
  rw [holdsP_or (ks := [0, 2]) rfl]
  show (false || ((holdsP e (flagD K) 3 0 || (holdsP e (flagD K) 3 2 || false)) && true)) = _
  rw [holdsP_not (i := 2) (ks := [1]) rfl]
  show (false || ((holdsP e (flagD K) 3 0 || (!(holdsP e (flagD K) 2 1 || false) || false)) && true)) = _
  rw [holdsP_key rfl, holdsP_key rfl]
  cases h : e.keys.any fun k => k == K <;> simp

/-- The keywords that the law lays: by numbers, each modulo five. -/
def keysF (l : List Int) : List ByteArray := l.map fun k => keyF5 (k.toNat % 5)
def hasF (l : List Int) (f : Nat) : Bool := l.any fun k => k.toNat % 5 == f
theorem keysF_has (l : List Int) (f : Nat) (hf : f < 5) : ((keysF l).any fun k => k == keyF5 f) = hasF l f := by
  unfold keysF hasF
  rw [List.any_map]
  congr 1
  funext k
  exact key_eq f hf (k.toNat % 5) (Nat.mod_lt _ (by decide))

theorem holds_keys (w : World) (keys : List ByteArray) (kv : Value) (hk : RdS w [] 1 kv keys.length (keysV keys)) (f : Out) (v : Value) (hf : FAt w v f) (hg : goodF f = true) (hkids : ∀ t ∈ f, t.kids.length ≤ 1000000) (hl : f.length ≤ 1000) :
    Calls Tryz.prog 16 #[v, .agg #[.int .i64 1, .int .i64 0, .string ⟨#[]⟩, .int .i64 0, kv, .slice none 0 0, .int .i64 0, .int .i64 0]] w fun en w' => en = .returned (.bool (HoldsP (emS 0 keys) f)) ∧ Below w.heap.size w w' :=
  holds_anyH w (emS 0 keys) f v 1 0 0 kv (.slice none 0 0) (by simp [emS]) hk (RdS.no w 2) hf hg hkids hl
theorem okL_one {a : Int} {x : ByteArray} (hx : x.size ≤ 1100) : okL (flatW [(a, x)]) := okL_flat _ (by
  intro p hp
  obtain rfl := List.mem_singleton.1 hp
  exact hx)
theorem okL_three {a b c : Int} {x y z : ByteArray} (hx : x.size ≤ 1100) (hy : y.size ≤ 1100) (hz : z.size ≤ 1100) : okL (flatW [(a, x), (b, y), (c, z)]) := okL_flat _ (by
  intro p hp
  rcases List.mem_cons.1 hp with rfl | hp
  · exact hx
  · rcases List.mem_cons.1 hp with rfl | hp
    · exact hy
    · obtain rfl := List.mem_singleton.1 hp
      exact hz)
theorem mail8B {W : World} {g : Nat} {t : TypeId} {a b c d x y z u : Value} (hB : Blk W g t #[a, b, c, d, x, y, z, u]) :
    W.cell? ⟨g, 0, none⟩ = some a ∧ W.cell? ⟨g, 1, none⟩ = some b ∧ W.cell? ⟨g, 2, none⟩ = some c ∧ W.cell? ⟨g, 3, none⟩ = some d ∧ W.cell? ⟨g, 4, none⟩ = some x ∧ W.cell? ⟨g, 5, none⟩ = some y ∧ W.cell? ⟨g, 6, none⟩ = some z ∧ W.cell? ⟨g, 7, none⟩ = some u :=
  ⟨hB.cell 0, hB.cell 1, hB.cell 2, hB.cell 3, hB.cell 4, hB.cell 5, hB.cell 6, hB.cell 7⟩
/-- What a reading hands back, its terms known. -/
def RdOut (W : World) (n : Nat) (f : Out) (e : Ending) (w' : World) : Prop := ∃ A c, e = .returned (.tuple #[.slice A n c, .bool false, .int .i64 0]) ∧ FAt w' (.slice A n c) f ∧ Below W.heap.size W w'
theorem ROut.known {W W' : World} {f : Out} {e : Ending} {w' : World} (h : ROut W' (f, false, 0) e w') (hb : Below W.heap.size W W') (n : Nat) (hn : f.length = n) : RdOut W n f e w' := by
  obtain ⟨ov, hb2, xs, F, rfl, hs, hx, hbb⟩ := h
  obtain ⟨A, c, rfl, _, _⟩ := hs.form
  subst hn
  exact ⟨A, c, rfl, ⟨hb2, xs, F, hs, hx⟩, below_then hb hbb⟩

end Go.Proofs.YtnfabgbidkddhaaGreatDoor

namespace Go.Proofs.YtnfabgbidkddhaaGreatDoor
open Go.RowKit

/-- The set's text: two numbers. -/
def setL (x y : Nat) : List UInt8 := textL [(x : Int)] ++ 58 :: textL [(y : Int)]
def setT (x y : Nat) : ByteArray := ⟨(setL x y).toArray⟩
def mnI (x y : Nat) : Int := if (y : Int) < x then y else x
def mxI (x y : Nat) : Int := if (x : Int) < y then y else x
def setOkB (x y : Nat) : Bool := decide (readL (setL x y) 0 = ([(mnI x y, mxI x y)], 0)) && decide ((setL x y).length ≤ 5) && isPlace (setT x y) && decide ((cutL (setL x y)).1 ≠ [42]) && decide ((cutL (setL x y)).2 ≠ [42]) && decide (piecesC 44 (setL x y) = [setL x y])
theorem set_all : ((List.range 71).all fun x => (List.range 71).all fun y => decide (x = 0) || decide (y = 0) || setOkB x y) = true := by decide +kernel
theorem set_ok {x y : Nat} (hx : 1 ≤ x ∧ x < 71) (hy : 1 ≤ y ∧ y < 71) : readL (setL x y) 0 = ([(mnI x y, mxI x y)], 0) ∧ (setL x y).length ≤ 5 ∧ isPlace (setT x y) = true ∧ (cutL (setL x y)).1 ≠ [42] ∧ (cutL (setL x y)).2 ≠ [42] ∧ piecesC 44 (setL x y) = [setL x y] := by
  have h := List.all_eq_true.1 (List.all_eq_true.1 set_all x (List.mem_range.2 hx.2)) y (List.mem_range.2 hy.2)
  have h1 : decide (x = 0) = false := by simp; omega
  have h2 : decide (y = 0) = false := by simp; omega
  rw [h1, h2, Bool.false_or, Bool.false_or] at h
  unfold setOkB at h
  simp only [Bool.and_eq_true, decide_eq_true_eq] at h
  exact ⟨h.1.1.1.1.1, h.1.1.1.1.2, h.1.1.1.2, h.1.1.2, h.1.2, h.2⟩

/-- A star's number is not asked for. -/
theorem set_star {x y : Nat} (hx : 1 ≤ x ∧ x < 71) (hy : 1 ≤ y ∧ y < 71) (s : Int) : readL (setL x y) s = ([(mnI x y, mxI x y)], 0) := by
  obtain ⟨h1, h2, _, h3, h4, h5⟩ := set_ok hx hy
  have hp : partL (setL x y) s = partL (setL x y) 0 := by
    unfold partL boundL
    rw [if_neg h3, if_neg h4, if_neg h3, if_neg h4]
  rw [← h1]
  unfold readL
  rw [h5]
  unfold readGo readGo
  rw [hp]

/-- The filters. -/
def setF (b : Int) (S : List Rg) : Out := [tmS b S, tmK 1 [0]]
theorem place_read (E : CEnv) {x y : Nat} (hx : 1 ≤ x ∧ x < 71) (hy : 1 ≤ y ∧ y < 71) : readP E (flatW [(1, setT x y)]) = (setF E.box (mergeR (placesGo [(mnI x y, mxI x y)] 0 E.uids)), false, 0) := by
  obtain ⟨_, _, h2, _, _, _⟩ := set_ok hx hy
  have hk : keyP E 1 (flatW [(1, setT x y)]) [] false = placeP E (setT x y) [] [] false := by
    show (if (1 : Int) = 3 then _ else if (1 : Int) ≠ 1 then none else if isPlace (setT x y) = true then placeP E (setT x y) [] [] false else _) = _
    rw [if_neg (by decide), if_neg (by decide), if_pos h2]
  have hp : placeP E (setT x y) [] [] false = some (0, [], [tmS E.box (mergeR (placesGo [(mnI x y, mxI x y)] 0 E.uids))], false) := by
    unfold placeP
    rw [show (setT x y).data.toList = setL x y from rfl, set_star hx hy, if_pos rfl]
    rfl
  show (match wholeP (keyP E 1) 1 (flatW [(1, setT x y)]) [] false [] with | none => _ | some (_, out, mod) => _) = _
  have hw : wholeP (keyP E 1) 1 (flatW [(1, setT x y)]) [] false [] = some (1, setF E.box (mergeR (placesGo [(mnI x y, mxI x y)] 0 E.uids)), false) := by
    show (match keyP E 1 (flatW [(1, setT x y)]) [] false with | none => none | some (k, ws, out', mod') => wholeP (keyP E 1) 0 ws out' mod' ([] ++ [k])) = _
    rw [hk, hp]
    rfl
  rw [hw]
  rfl
def uidT : ByteArray := ⟨#[85, 105, 100]⟩
theorem uid_read (E : CEnv) {x y : Nat} (hx : 1 ≤ x ∧ x < 71) (hy : 1 ≤ y ∧ y < 71) : readP E (flatW [(1, uidT), (1, setT x y)]) = (setF E.box [(mnI x y, mxI x y)], false, 0) := by
  have hk : keyP E 2 (flatW [(1, uidT), (1, setT x y)]) [] false = stepA E .uid (flatW [(1, setT x y)]) [] false := rfl
  have hp : stepA E .uid (flatW [(1, setT x y)]) [] false = some (0, [], [tmS E.box [(mnI x y, mxI x y)]], false) := by
    show (if (readL (setL x y) E.star).2 = 0 then putP (tmS E.box (readL (setL x y) E.star).1) [] [] false else none) = _
    rw [set_star hx hy, if_pos rfl]
    rfl
  have hw : wholeP (keyP E 2) 2 (flatW [(1, uidT), (1, setT x y)]) [] false [] = some (1, setF E.box [(mnI x y, mxI x y)], false) := by
    show (match keyP E 2 (flatW [(1, uidT), (1, setT x y)]) [] false with | none => none | some (k, ws, out', mod') => wholeP (keyP E 2) 1 ws out' mod' ([] ++ [k])) = _
    rw [hk, hp]
    rfl
  show (match wholeP (keyP E 2) 2 (flatW [(1, uidT), (1, setT x y)]) [] false [] with | none => _ | some (_, out, mod) => _) = _
  rw [hw]
  rfl
theorem holdsP_uid {e : Em} {f : Out} {n i : Nat} {b : Int} {S : List Rg} (h : f[i]? = some (tmS b S)) : holdsP e f (n + 1) i = e.mem.any fun m => m.1 == b && inL S m.2 := by
  rw [holdsP_succ h]
  rfl
theorem holds_set (e : Em) (b : Int) (S : List Rg) : HoldsP e (setF b S) = e.mem.any fun m => m.1 == b && inL S m.2 := by
  have hr : rightP (setF b S) = true := rfl
  unfold HoldsP
  rw [hr, Bool.true_and]
  show (false || holdsP e (setF b S) 2 1) = _
  rw [holdsP_and (ks := [0]) rfl]
  show (false || (holdsP e (setF b S) 1 0 && true)) = _
  rw [holdsP_uid rfl]
  simp

theorem mergeR_has (l : List Rg) (h : ∀ x ∈ l, x.1 ≤ x.2) (n : Int) : Has (mergeR l) n ↔ Has l n := by
  have hp := sortedR_perm l
  obtain ⟨_, h2, _⟩ := mGo_ok (sortedR l) (fun x hx => h x (hp.mem_iff.1 hx)) (sortedR_low l)
  rw [show mergeR l = mGo (sortedR l) from rfl, h2]
  unfold Has
  exact ⟨fun ⟨x, hx, hh⟩ => ⟨x, hp.mem_iff.1 hx, hh⟩, fun ⟨x, hx, hh⟩ => ⟨x, hp.mem_iff.2 hx, hh⟩⟩
theorem placesGo_cons (S : List Rg) (i : Nat) (u : Int) (us : List Int) : placesGo S i (u :: us) = if inL S ((i : Int) + 1) = true ∧ 0 < u then (u, u) :: placesGo S (i + 1) us else placesGo S (i + 1) us := rfl
theorem places_one (S : List Rg) : ∀ (us : List Int) (i : Nat), ∀ x ∈ placesGo S i us, x.1 = x.2
  | [], _ => by simp [placesGo]
  | u :: us, i => by
    intro x hx
    unfold placesGo at hx
    split at hx
    · rcases List.mem_cons.1 hx with rfl | hx
      · rfl
      · exact places_one S us (i + 1) x hx
    · exact places_one S us (i + 1) x hx
theorem places_mem (S : List Rg) : ∀ (us : List Int) (i : Nat) (n : Int), Has (placesGo S i us) n ↔ ∃ j, ∃ h : j < us.length, us[j] = n ∧ inL S ((i : Int) + j + 1) = true ∧ 0 < n
  | [], _, n => by simp [placesGo, has_nil]
  | u :: us, i, n => by
    have ih := places_mem S us (i + 1) n
    have hs : (∃ j, ∃ h : j < (u :: us).length, (u :: us)[j] = n ∧ inL S ((i : Int) + j + 1) = true ∧ 0 < n) ↔ (u = n ∧ inL S ((i : Int) + 1) = true ∧ 0 < n) ∨ ∃ j, ∃ h : j < us.length, us[j] = n ∧ inL S (((i + 1 : Nat) : Int) + j + 1) = true ∧ 0 < n := by
      constructor
      · rintro ⟨j, hj, h1, h2, h3⟩
        cases j with
        | zero => exact .inl ⟨h1, by simpa using h2, h3⟩
        | succ j =>
          refine .inr ⟨j, by simpa using hj, by simpa using h1, ?_, h3⟩
          rw [show (((i + 1 : Nat) : Int) + (j : Int) + 1) = (i : Int) + ((j + 1 : Nat) : Int) + 1 by omega]
          exact h2
      · rintro (⟨h1, h2, h3⟩ | ⟨j, hj, h1, h2, h3⟩)
        · exact ⟨0, by simp, h1, by simpa using h2, h3⟩
        · refine ⟨j + 1, by simpa using hj, by simpa using h1, ?_, h3⟩
          rw [show ((i : Int) + ((j + 1 : Nat) : Int) + 1) = (((i + 1 : Nat) : Int) + (j : Int) + 1) by omega]
          exact h2
    rw [hs, ← ih, placesGo_cons]
    split
    · rename_i hc
      rw [has_cons]
      constructor
      · rintro (⟨h1, h2⟩ | h)
        · exact .inl ⟨by simp only at h1 h2; omega, hc.1, by simp only at h1 h2; omega⟩
        · exact .inr h
      · rintro (⟨h1, _, _⟩ | h)
        · exact .inl ⟨by simp only; omega, by simp only; omega⟩
        · exact .inr h
    · rename_i hc
      constructor
      · exact fun h => .inr h
      · rintro (⟨h1, h2, h3⟩ | h)
        · exact absurd ⟨h2, by omega⟩ hc
        · exact h
/-- Numbers that rise. -/
def Rising (l : List Int) : Prop := l.Pairwise (· < ·) ∧ ∀ u ∈ l, 1 ≤ u
theorem rising_inj {l : List Int} (h : Rising l) {i j : Nat} (hi : i < l.length) (hj : j < l.length) (he : l[i] = l[j]) : i = j := by
  have hp := List.pairwise_iff_getElem.1 h.1
  rcases Nat.lt_trichotomy i j with h1 | h1 | h1
  · have := hp i j hi hj h1
    omega
  · exact h1
  · have := hp j i hj hi h1
    omega
/-- The numbers at the places of a set: whether one of them is there. -/
theorem place_in {l : List Int} (h : Rising l) (a b : Int) (i : Nat) (hi : i < l.length) : inL (mergeR (placesGo [(a, b)] 0 l)) l[i] = (decide (a ≤ (i : Int) + 1) && decide ((i : Int) + 1 ≤ b)) := by
  have h1 : inL (mergeR (placesGo [(a, b)] 0 l)) l[i] = true ↔ (a ≤ (i : Int) + 1 ∧ (i : Int) + 1 ≤ b) := by
    rw [inL_has, mergeR_has _ (fun x hx => by rw [places_one _ _ _ x hx]; exact Int.le_refl _), places_mem]
    constructor
    · rintro ⟨j, hj, he, h2, _⟩
      obtain rfl := rising_inj h hj hi he
      rw [inL_has, has_one] at h2
      simp only at h2
      omega
    · intro hh
      refine ⟨i, hi, rfl, ?_, by have := h.2 l[i] (List.getElem_mem hi); omega⟩
      rw [inL_has, has_one]
      simp only
      omega
  cases hc : inL (mergeR (placesGo [(a, b)] 0 l)) l[i] with
  | true =>
    have := h1.1 hc
    simp [this]
  | false =>
    symm
    rw [Bool.and_eq_false_iff]
    by_cases h2 : a ≤ (i : Int) + 1
    · right
      rw [decide_eq_false_iff_not]
      intro h3
      rw [h1.2 ⟨h2, h3⟩] at hc
      cases hc
    · left
      simpa using h2
theorem uid_in (a b n : Int) : inL [(a, b)] n = (decide (a ≤ n) && decide (n ≤ b)) := by simp [inL, inR]

/-- The numbers that the law lays. -/
def numsG : List Int → Int → List Int
  | [], _ => []
  | g :: r, n => (n + 1 + g % 5) :: numsG r (n + 1 + g % 5)
theorem numsG_length : ∀ (gs : List Int) (n : Int), (numsG gs n).length = gs.length
  | [], _ => rfl
  | g :: r, n => by simp [numsG, numsG_length r]
theorem numsG_ok : ∀ (gs : List Int) (n : Int), (∀ u ∈ numsG gs n, n + 1 ≤ u ∧ u ≤ n + 5 * gs.length) ∧ (numsG gs n).Pairwise (· < ·)
  | [], _ => by simp [numsG]
  | g :: r, n => by
    obtain ⟨h1, h2⟩ := numsG_ok r (n + 1 + g % 5)
    have hg : 0 ≤ g % 5 ∧ g % 5 ≤ 4 := by omega
    refine ⟨fun u hu => ?_, ?_⟩
    · rcases List.mem_cons.1 hu with rfl | hu
      · simp only [List.length_cons]
        omega
      · have := h1 u hu
        simp only [List.length_cons]
        omega
    · exact List.pairwise_cons.2 ⟨fun u hu => by have := h1 u hu; omega, h2⟩
theorem numsG_rising (gs : List Int) : Rising (numsG gs 0) :=
  ⟨(numsG_ok gs 0).2, fun u hu => by have := (numsG_ok gs 0).1 u hu; omega⟩
/-- So far. -/
theorem numsG_snoc : ∀ (gs : List Int) (n g : Int), numsG (gs ++ [g]) n = numsG gs n ++ [((numsG gs n).getLast?.getD n) + 1 + g % 5]
  | [], n, g => rfl
  | x :: r, n, g => by
    have ih := numsG_snoc r (n + 1 + x % 5) g
    show (n + 1 + x % 5) :: numsG (r ++ [g]) (n + 1 + x % 5) = (n + 1 + x % 5) :: numsG r (n + 1 + x % 5) ++ [_]
    rw [ih, List.cons_append]
    congr 3
    cases hr : numsG r (n + 1 + x % 5) with
    | nil => simp [numsG, hr]
    | cons y q =>
      have : (numsG (x :: r) n).getLast? = (y :: q).getLast? := by
        show ((n + 1 + x % 5) :: numsG r (n + 1 + x % 5)).getLast? = _
        rw [hr, List.getLast?_cons_cons]
      rw [this]
      cases h : (y :: q).getLast? with
      | none => simp at h
      | some z => rfl

/-- An email of one place. -/
def emM (b u : Int) : Em := ⟨0, 0, [], [], [(b, u)]⟩
theorem holds_mem (w : World) (id b u : Int) (X : Nat) (hX : Blk w X 49 #[.int .i64 b, .int .i64 u]) (f : Out) (v : Value) (hf : FAt w v f) (hg : goodF f = true) (hkids : ∀ t ∈ f, t.kids.length ≤ 1000000) (hl : f.length ≤ 1000) :
    Calls Tryz.prog 16 #[v, .agg #[.int .i64 id, .int .i64 0, .string ⟨#[]⟩, .int .i64 0, .slice none 0 0, .slice (some ⟨X, 0, none⟩) 1 1, .int .i64 0, .int .i64 0]] w fun en w' => en = .returned (.bool (HoldsP (emM b u) f)) ∧ Below w.heap.size w w' := by
  have hS : Sl w 49 2 (.slice (some ⟨X, 0, none⟩) 1 1) (some X) 1 (flatR [(b, u)]) := ⟨rfl, .inr ⟨X, 0, 1, _, rfl, rfl, hX, Nat.le_refl _, by decide, by simp, rfl⟩⟩
  exact holds_anyH w (emM b u) f v id 0 0 (.slice none 0 0) (.slice (some ⟨X, 0, none⟩) 1 1) (by simp [emM]) (RdS.no w 1) (Sl.reads hS [] (by simp)) hf hg hkids hl
theorem holds_setM (b c u : Int) (S : List Rg) : HoldsP (emM b u) (setF c S) = (b == c && inL S u) := by
  rw [holds_set]
  simp [emM]
theorem set_good (b : Int) (S : List Rg) : goodF (setF b S) = true ∧ (∀ t ∈ setF b S, t.kids.length ≤ 1000000) ∧ (setF b S).length ≤ 1000 := ⟨rfl, by simp [setF, tmS, tmK], by simp [setF]⟩

end Go.Proofs.YtnfabgbidkddhaaGreatDoor
