/-
  What filters of flags tell, plain.
-/
import Derived.Test.YtnfabgbidkddhaaGreatDoorDaysPM
namespace Go.Proofs.YtnfabgbidkddhaaGreatDoor
open Go.RowKit

/-- The flags' words: small, of mixed sizes; their keywords. -/
def lowFl : List ByteArray := [⟨#[97, 110, 115, 119, 101, 114, 101, 100]⟩, ⟨#[100, 101, 108, 101, 116, 101, 100]⟩, ⟨#[100, 114, 97, 102, 116]⟩, ⟨#[102, 108, 97, 103, 103, 101, 100]⟩, ⟨#[115, 101, 101, 110]⟩]
def upFl : List ByteArray := [⟨#[65, 110, 115, 119, 101, 114, 101, 100]⟩, ⟨#[68, 69, 76, 69, 84, 69, 68]⟩, ⟨#[100, 114, 97, 102, 84]⟩, ⟨#[70, 76, 65, 71, 103, 101, 100]⟩, ⟨#[83, 69, 69, 78]⟩]
def lowF5 (f : Nat) : ByteArray := lowFl.getD f .empty
def upF5 (f : Nat) : ByteArray := upFl.getD f .empty
def keyF5 (f : Nat) : ByteArray := ⟨#[36]⟩ ++ lowF5 f
def flagA (K : ByteArray) : Out := [tmT 6 .empty K, tmK 1 [0]]
def flagB (K : ByteArray) : Out := [tmT 6 .empty K, tmK 3 [0], tmK 1 [1]]
def flagD (K : ByteArray) : Out := [tmT 6 .empty K, tmT 6 .empty K, tmK 3 [1], tmK 2 [0, 2], tmK 1 [3]]
theorem flag_readA : ∀ f, f < 5 → readP ⟨1, []⟩ (flatW [(1, upF5 f)]) = (flagA (keyF5 f), false, 0) := by decide +kernel
theorem flag_readB : ∀ f, f < 5 → readP ⟨1, []⟩ (flatW [(1, ⟨#[85, 78]⟩ ++ upF5 f)]) = (flagB (keyF5 f), false, 0) := by decide +kernel
theorem flag_readC : ∀ f, f < 5 → readP ⟨1, []⟩ (flatW [(1, ⟨#[107, 101, 121, 119, 111, 114, 100]⟩), (1, ⟨#[92]⟩ ++ upF5 f)]) = (flagA (keyF5 f), false, 0) := by decide +kernel
theorem flag_readD : ∀ f, f < 5 → readP ⟨1, []⟩ (flatW [(1, ⟨#[111, 114]⟩), (1, upF5 f), (1, ⟨#[117, 110]⟩ ++ lowF5 f)]) = (flagD (keyF5 f), false, 0) := by decide +kernel
theorem flag_good (K : ByteArray) : goodF (flagA K) = true ∧ goodF (flagB K) = true ∧ goodF (flagD K) = true := ⟨rfl, rfl, rfl⟩
theorem flag_kids (K : ByteArray) : (∀ t ∈ flagA K, t.kids.length ≤ 1000000) ∧ (∀ t ∈ flagB K, t.kids.length ≤ 1000000) ∧ (∀ t ∈ flagD K, t.kids.length ≤ 1000000) := by
  simp [flagA, flagB, flagD, tmT, tmK]
theorem flag_sizes : ∀ f, f < 5 → (upF5 f).size ≤ 8 ∧ (lowF5 f).size ≤ 8 ∧ (keyF5 f).size ≤ 9 := by decide +kernel
theorem key_eq : ∀ f, f < 5 → ∀ j, j < 5 → (keyF5 j == keyF5 f) = (j == f) := by decide +kernel

theorem holds_flagA (e : Em) (K : ByteArray) : HoldsP e (flagA K) = e.keys.any fun k => k == K := by
  have hr : rightP (flagA K) = true := rfl
  unfold HoldsP
  rw [hr, Bool.true_and]
  show (false || holdsP e (flagA K) 2 1) = _
  rw [holdsP_and (ks := [0]) rfl]
  show (false || (holdsP e (flagA K) 1 0 && true)) = _
  rw [holdsP_key rfl]
  simp
theorem holds_flagB (e : Em) (K : ByteArray) : HoldsP e (flagB K) = !(e.keys.any fun k => k == K) := by
  have hr : rightP (flagB K) = true := rfl
  unfold HoldsP
  rw [hr, Bool.true_and]
  show (false || holdsP e (flagB K) 3 2) = _
  rw [holdsP_and (ks := [1]) rfl]
  show (false || (holdsP e (flagB K) 2 1 && true)) = _
  rw [holdsP_not (ks := [0]) rfl]
  show (false || (!(holdsP e (flagB K) 1 0 || false) && true)) = _
  rw [holdsP_key rfl]
  simp
theorem holds_flagD (e : Em) (K : ByteArray) : HoldsP e (flagD K) = true := by
  have hr : rightP (flagD K) = true := rfl
  unfold HoldsP
  rw [hr, Bool.true_and]
  show (false || holdsP e (flagD K) 5 4) = _
  rw [holdsP_and (ks := [3]) rfl]
  show (false || (holdsP e (flagD K) 4 3 && true)) = _
  rw [holdsP_or (ks := [0, 2]) rfl]
  show (false || ((holdsP e (flagD K) 3 0 || (holdsP e (flagD K) 3 2 || false)) && true)) = _
  rw [holdsP_not (i := 2) (ks := [1]) rfl]
  show (false || ((holdsP e (flagD K) 3 0 || (!(holdsP e (flagD K) 2 1 || false) || false)) && true)) = _
  rw [holdsP_key rfl, holdsP_key rfl]
  cases h : e.keys.any fun k => k == K <;> simp

/-- The keywords that the law lays: by numbers, each modulo five. -/
def keysF (l : List Int) : List ByteArray := l.map fun k => keyF5 (k.toNat % 5)
def hasF (l : List Int) (f : Nat) : Bool := l.any fun k => k.toNat % 5 == f
theorem keysF_has (l : List Int) (f : Nat) (hf : f < 5) : ((keysF l).any fun k => k == keyF5 f) = hasF l f := by
  unfold keysF hasF
  rw [List.any_map]
  congr 1
  funext k
  exact key_eq f hf (k.toNat % 5) (Nat.mod_lt _ (by decide))

theorem holds_keys (w : World) (keys : List ByteArray) (kv : Value) (hk : RdS w [] 1 kv keys.length (keysV keys)) (f : Out) (v : Value) (hf : FAt w v f) (hg : goodF f = true) (hkids : ∀ t ∈ f, t.kids.length ≤ 1000000) (hl : f.length ≤ 1000) :
    Calls Tryz.prog 16 #[v, .agg #[.int .i64 1, .int .i64 0, .string ⟨#[]⟩, .int .i64 0, kv, .slice none 0 0, .int .i64 0, .int .i64 0]] w fun en w' => en = .returned (.bool (HoldsP (emS 0 keys) f)) ∧ Below w.heap.size w w' :=
  holds_anyH w (emS 0 keys) f v 1 0 0 kv (.slice none 0 0) (by simp [emS]) hk (RdS.no w 2) hf hg hkids hl
theorem okL_one {a : Int} {x : ByteArray} (hx : x.size ≤ 1100) : okL (flatW [(a, x)]) := okL_flat _ (by
  intro p hp
  obtain rfl := List.mem_singleton.1 hp
  exact hx)
theorem okL_three {a b c : Int} {x y z : ByteArray} (hx : x.size ≤ 1100) (hy : y.size ≤ 1100) (hz : z.size ≤ 1100) : okL (flatW [(a, x), (b, y), (c, z)]) := okL_flat _ (by
  intro p hp
  rcases List.mem_cons.1 hp with rfl | hp
  · exact hx
  · rcases List.mem_cons.1 hp with rfl | hp
    · exact hy
    · obtain rfl := List.mem_singleton.1 hp
      exact hz)
theorem mail8B {W : World} {g : Nat} {t : TypeId} {a b c d x y z u : Value} (hB : Blk W g t #[a, b, c, d, x, y, z, u]) :
    W.cell? ⟨g, 0, none⟩ = some a ∧ W.cell? ⟨g, 1, none⟩ = some b ∧ W.cell? ⟨g, 2, none⟩ = some c ∧ W.cell? ⟨g, 3, none⟩ = some d ∧ W.cell? ⟨g, 4, none⟩ = some x ∧ W.cell? ⟨g, 5, none⟩ = some y ∧ W.cell? ⟨g, 6, none⟩ = some z ∧ W.cell? ⟨g, 7, none⟩ = some u :=
  ⟨hB.cell 0, hB.cell 1, hB.cell 2, hB.cell 3, hB.cell 4, hB.cell 5, hB.cell 6, hB.cell 7⟩
/-- What a reading hands back, its terms known. -/
def RdOut (W : World) (n : Nat) (f : Out) (e : Ending) (w' : World) : Prop := ∃ A c, e = .returned (.tuple #[.slice A n c, .bool false, .int .i64 0]) ∧ FAt w' (.slice A n c) f ∧ Below W.heap.size W w'
theorem ROut.known {W W' : World} {f : Out} {e : Ending} {w' : World} (h : ROut W' (f, false, 0) e w') (hb : Below W.heap.size W W') (n : Nat) (hn : f.length = n) : RdOut W n f e w' := by
  obtain ⟨ov, hb2, xs, F, rfl, hs, hx, hbb⟩ := h
  obtain ⟨A, c, rfl, _, _⟩ := hs.form
  subst hn
  exact ⟨A, c, rfl, ⟨hb2, xs, F, hs, hx⟩, below_then hb hbb⟩

end Go.Proofs.YtnfabgbidkddhaaGreatDoor
