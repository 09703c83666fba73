/-
  What filters of days tell, plain.
-/
import Derived.Test.YtnfabgbidkddhaaGreatDoorHoldsWM
import Derived.Test.YtnfabgbidkddhaaGreatDoorCritAwakeM
namespace Go.Proofs.YtnfabgbidkddhaaGreatDoor
open Go.RowKit

deriving instance DecidableEq for Tm
/-- The day's word: two digits, and the rest. -/
def dayT (d : Nat) : ByteArray := ⟨#[UInt8.ofNat (48 + d / 10), UInt8.ofNat (48 + d % 10), 45, 74, 97, 110, 45, 49, 57, 55, 48]⟩
def onW : ByteArray := ⟨#[79, 78]⟩
def sinceW : ByteArray := ⟨#[83, 73, 78, 67, 69]⟩
def beforeW : ByteArray := ⟨#[66, 69, 70, 79, 82, 69]⟩
def onF (d : Nat) : Out := [tmN 8 (86400 * ((d : Int) - 1)), tmN 7 (86400 * (d : Int)), tmK 1 [0, 1], tmK 1 [2]]
def sinceF (d : Nat) : Out := [tmN 8 (86400 * ((d : Int) - 1)), tmK 1 [0]]
def beforeF (d : Nat) : Out := [tmN 7 (86400 * ((d : Int) - 1)), tmK 1 [0]]
theorem on_read : ∀ d, d < 29 → 1 ≤ d → readP ⟨1, []⟩ (flatW [(1, onW), (1, dayT d)]) = (onF d, false, 0) := by decide +kernel
theorem since_read : ∀ d, d < 29 → 1 ≤ d → readP ⟨1, []⟩ (flatW [(1, sinceW), (1, dayT d)]) = (sinceF d, false, 0) := by decide +kernel
theorem before_read : ∀ d, d < 29 → 1 ≤ d → readP ⟨1, []⟩ (flatW [(1, beforeW), (2, dayT d)]) = (beforeF d, false, 0) := by decide +kernel
theorem days_good : ∀ d, d < 29 → 1 ≤ d → goodF (onF d) = true ∧ goodF (sinceF d) = true ∧ goodF (beforeF d) = true := by decide +kernel

theorem days_kids : ∀ d, d < 29 → (∀ t ∈ onF d, t.kids.length ≤ 1000000) ∧ (∀ t ∈ sinceF d, t.kids.length ≤ 1000000) ∧ (∀ t ∈ beforeF d, t.kids.length ≤ 1000000) := by decide +kernel
theorem dayT_size (d : Nat) : (dayT d).size = 11 := rfl

theorem holdsP_succ {e : Em} {f : Out} {n i : Nat} {t : Tm} (h : f[i]? = some t) : holdsP e f (n + 1) i = (
      if t.kind = 1 then t.kids.all fun k => holdsP e f n k.toNat
      else if t.kind = 2 then t.kids.any fun k => holdsP e f n k.toNat
      else if t.kind = 3 then !(t.kids.any fun k => holdsP e f n k.toNat)
      else if t.kind = 4 then e.mem.any fun m => (m.1 == t.n) != false
      else if t.kind = 5 then e.mem.any fun m => (m.1 == t.n) != true
      else if t.kind = 6 then e.keys.any fun k => k == t.text
      else if t.kind = 7 then decide (e.sec < t.n)
      else if t.kind = 8 then decide (t.n ≤ e.sec)
      else if t.kind = 9 then decide (t.n ≤ (e.text.length : Nat))
      else if t.kind = 10 then decide (((e.text.length : Nat) : Int) < t.n)
      else if t.kind = 14 then e.mem.any fun m => m.1 == t.n && inL t.set m.2
      else if t.kind = 15 then decide (t.n ≤ e.mod)
      else false) := by
  show (match f[i]? with | none => false | some t => _) = _
  rw [h]
theorem holdsP_and {e : Em} {f : Out} {n i : Nat} {ks : List Int} (h : f[i]? = some (tmK 1 ks)) : holdsP e f (n + 1) i = ks.all fun k => holdsP e f n k.toNat := by
  rw [holdsP_succ h]
  rfl
theorem holdsP_or {e : Em} {f : Out} {n i : Nat} {ks : List Int} (h : f[i]? = some (tmK 2 ks)) : holdsP e f (n + 1) i = ks.any fun k => holdsP e f n k.toNat := by
  rw [holdsP_succ h]
  rfl
theorem holdsP_not {e : Em} {f : Out} {n i : Nat} {ks : List Int} (h : f[i]? = some (tmK 3 ks)) : holdsP e f (n + 1) i = !(ks.any fun k => holdsP e f n k.toNat) := by
  rw [holdsP_succ h]
  rfl
theorem holdsP_before {e : Em} {f : Out} {n i : Nat} {a : Int} (h : f[i]? = some (tmN 7 a)) : holdsP e f (n + 1) i = decide (e.sec < a) := by
  rw [holdsP_succ h]
  rfl
theorem holdsP_after {e : Em} {f : Out} {n i : Nat} {a : Int} (h : f[i]? = some (tmN 8 a)) : holdsP e f (n + 1) i = decide (a ≤ e.sec) := by
  rw [holdsP_succ h]
  rfl
theorem holdsP_key {e : Em} {f : Out} {n i : Nat} {a b : ByteArray} (h : f[i]? = some (tmT 6 a b)) : holdsP e f (n + 1) i = e.keys.any fun k => k == b := by
  rw [holdsP_succ h]
  rfl

theorem holds_on (e : Em) (d : Nat) : HoldsP e (onF d) = (decide (86400 * ((d : Int) - 1) ≤ e.sec) && decide (e.sec < 86400 * (d : Int))) := by
  have hr : rightP (onF d) = true := rfl
  unfold HoldsP
  rw [hr, Bool.true_and]
  show (false || holdsP e (onF d) 4 3) = _
  rw [holdsP_and (ks := [2]) rfl]
  show (false || (holdsP e (onF d) 3 2 && true)) = _
  rw [holdsP_and (ks := [0, 1]) rfl]
  show (false || ((holdsP e (onF d) 2 0 && (holdsP e (onF d) 2 1 && true)) && true)) = _
  rw [holdsP_after rfl, holdsP_before rfl]
  simp
theorem holds_since (e : Em) (d : Nat) : HoldsP e (sinceF d) = decide (86400 * ((d : Int) - 1) ≤ e.sec) := by
  have hr : rightP (sinceF d) = true := rfl
  unfold HoldsP
  rw [hr, Bool.true_and]
  show (false || holdsP e (sinceF d) 2 1) = _
  rw [holdsP_and (ks := [0]) rfl]
  show (false || (holdsP e (sinceF d) 1 0 && true)) = _
  rw [holdsP_after rfl]
  simp
theorem holds_before (e : Em) (d : Nat) : HoldsP e (beforeF d) = decide (e.sec < 86400 * ((d : Int) - 1)) := by
  have hr : rightP (beforeF d) = true := rfl
  unfold HoldsP
  rw [hr, Bool.true_and]
  show (false || holdsP e (beforeF d) 2 1) = _
  rw [holdsP_and (ks := [0]) rfl]
  show (false || (holdsP e (beforeF d) 1 0 && true)) = _
  rw [holdsP_before rfl]
  simp

theorem RdS.no (w : World) (s : Nat) : RdS w [] s (.slice none 0 0) 0 [] := ⟨by simp, .inl ⟨rfl, rfl⟩⟩
theorem okL_two {a b : Int} {x y : ByteArray} (hx : x.size ≤ 1100) (hy : y.size ≤ 1100) : okL (flatW [(a, x), (b, y)]) := okL_flat _ (by
  intro p hp
  rcases List.mem_cons.1 hp with rfl | hp
  · exact hx
  · obtain rfl := List.mem_singleton.1 hp
    exact hy)
/-- An email of a second, of some keywords, of nothing else. -/
def emS (sec : Int) (keys : List ByteArray) : Em := ⟨sec, 0, [], keys, []⟩
theorem holds_emS (w : World) (sec : Int) (f : Out) (v : Value) (hf : FAt w v f) (hg : goodF f = true) (hkids : ∀ t ∈ f, t.kids.length ≤ 1000000) (hl : f.length ≤ 1000) :
    Calls Tryz.prog 16 #[v, .agg #[.int .i64 1, .int .i64 0, .string ⟨#[]⟩, .int .i64 sec, .slice none 0 0, .slice none 0 0, .int .i64 0, .int .i64 0]] w fun en w' => en = .returned (.bool (HoldsP (emS sec []) f)) ∧ Below w.heap.size w w' :=
  holds_anyH w (emS sec []) f v 1 0 0 (.slice none 0 0) (.slice none 0 0) (by simp [emS]) (RdS.no w 1) (RdS.no w 2) hf hg hkids hl

end Go.Proofs.YtnfabgbidkddhaaGreatDoor
