/-
  Plain facts on bytes and lists, with no program in sight: letters made small, and what is kept by it.
-/
import Derived.Below
import Derived.Laws.BytesArg
import Derived.Laws.Strings
namespace Go.Proofs.YtnfabgbidkddhaaDoor
open Go.RowKit

/-- A letter A to Z made small. -/
def lowB (c : UInt8) : UInt8 := if 65 ≤ c ∧ c ≤ 90 then c + 32 else c
def lowL (l : List UInt8) : List UInt8 := l.map lowB
def lowS (s : ByteArray) : ByteArray := ⟨(lowL s.data.toList).toArray⟩
/-- Its number, as the walk reckons it. -/
def lowN (c : UInt8) : Int := (lowB c).toNat

theorem lowN_big (c : UInt8) (h1 : 65 ≤ (c.toNat : Int)) (h2 : (c.toNat : Int) ≤ 90) : lowN c = (c.toNat : Int) + 32 := by
  unfold lowN lowB
  have a : 65 ≤ c := by rw [UInt8.le_iff_toNat_le]; show 65 ≤ c.toNat; omega
  have b : c ≤ 90 := by rw [UInt8.le_iff_toNat_le]; show c.toNat ≤ 90; omega
  rw [if_pos ⟨a, b⟩, UInt8.toNat_add]
  show ((c.toNat + 32) % 256 : Nat) = (c.toNat : Int) + 32
  omega
theorem lowN_other (c : UInt8) (h : ¬ (65 ≤ (c.toNat : Int) ∧ (c.toNat : Int) ≤ 90)) : lowN c = (c.toNat : Int) := by
  unfold lowN lowB
  rw [if_neg]
  rintro ⟨a, b⟩
  rw [UInt8.le_iff_toNat_le] at a b
  exact h ⟨by exact_mod_cast a, by exact_mod_cast b⟩

def lowNs (l : List UInt8) : List Int := l.map lowN
theorem lowNs_length (l : List UInt8) : (lowNs l).length = l.length := by simp [lowNs]

theorem take_snocB (s : ByteArray) (k : Nat) (h : k < s.size) : s.data.toList.take (k + 1) = s.data.toList.take k ++ [s[k]] := by
  rw [List.take_succ_eq_append_getElem (by simpa using h)]; rfl
theorem take_allB (s : ByteArray) (k : Nat) (h : s.size ≤ k) : s.data.toList.take k = s.data.toList := List.take_of_length_le (by simpa using h)
theorem lowNs_snoc (s : ByteArray) (k : Nat) (h : k < s.size) (x : Int) (hx : lowN s[k] = x) :
    (lowNs (s.data.toList.take k)).map (Value.int .u8) ++ [Value.int .u8 x] = (lowNs (s.data.toList.take (k + 1))).map (Value.int .u8) := by
  rw [take_snocB s k h]
  simp [lowNs, hx]
theorem strOf_lowNs (s : ByteArray) : strOfNums (lowNs s.data.toList) = lowS s := by
  unfold strOfNums lowS lowL lowNs
  rw [List.map_map]
  congr 2
  refine List.map_congr_left fun c _ => ?_
  simp [lowN]

theorem toList_beqB (a b : ByteArray) : (a.toList == b.toList) = (a.data.toList == b.data.toList) := by rw [ByteArray.toList_eq, ByteArray.toList_eq]
theorem lenB (s : ByteArray) : s.data.toList.length = s.size := by simp
theorem lowS_size (s : ByteArray) : (lowS s).size = s.size := by
  unfold lowS lowL
  show ((s.data.toList.map lowB).toArray).size = s.size
  simp

theorem of_dataL (t : ByteArray) (l : List UInt8) (h : t.data.toList = l) : t = ⟨l.toArray⟩ := by
  subst h
  rfl
theorem ne_toListB (t : ByteArray) (l : List UInt8) (h : t ≠ ⟨l.toArray⟩) : (t.toList == l) = false := by
  rw [ByteArray.toList_eq, beq_eq_false_iff_ne]
  exact fun e => h (of_dataL t l e)

end Go.Proofs.YtnfabgbidkddhaaDoor
