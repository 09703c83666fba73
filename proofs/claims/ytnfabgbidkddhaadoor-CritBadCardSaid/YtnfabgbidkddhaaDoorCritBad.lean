/-
  The walk of pillarboxlaw23.CritBad.
-/
import Derived.Test.YtnfabgbidkddhaaDoorCritAwake
namespace Go.Proofs.YtnfabgbidkddhaaDoor
open Go.RowKit
attribute [local go_sem ↓] Go.wp_at_zero Go.wp_at_succ

/-- Slices of words that a law has laid. -/
def LS (w : World) (l : List (Value × List (Int × ByteArray))) : Prop := ∀ p ∈ l, WsAt w p.1 (flatW p.2)
theorem LS.below {w w' : World} {l : List (Value × List (Int × ByteArray))} (h : LS w l) (hb : Below w.heap.size w w') : LS w' l := fun p hp => (h p hp).below hb
theorem LS.lay {w : World} {l : List (Value × List (Int × ByteArray))} (h : LS w l) (e : TypeId) (q : List (Int × ByteArray)) (n X : Nat) (hX : w.heap.size = X) (hn : q.length = n) (hm : n ≤ maxLen) :
    LS (w.alloc (.cells (cellsW q).toArray e)) (l ++ [(.slice (some ⟨X, 0, none⟩) n n, q)]) := by
  intro p hp
  rcases List.mem_append.1 hp with hp | hp
  · exact (h p hp).below ((Below.refl _ _).alloc (Nat.le_refl _) _)
  · rw [List.mem_singleton.1 hp, ← hX]
    exact WsAt.lit w e q n hn hm

def badTab : List (List (Int × ByteArray)) := [
  [],
  [(1, ⟨#[110, 111, 110, 101]⟩)],
  [(1, ⟨#[78, 79, 84]⟩)],
  [(1, ⟨#[79, 82]⟩), (1, ⟨#[65, 76, 76]⟩)],
  [(1, ⟨#[66, 69, 70, 79, 82, 69]⟩), (1, ⟨#[120]⟩)],
  [(1, ⟨#[76, 65, 82, 71, 69, 82]⟩), (1, ⟨#[45, 49]⟩)],
  [(1, ⟨#[72, 69, 65, 68, 69, 82]⟩), (1, ⟨#[97]⟩)],
  [(1, ⟨#[85, 73, 68]⟩), (1, ⟨#[48]⟩)],
  [(1, ⟨#[49, 58]⟩)],
  [(3, ⟨#[]⟩)],
  [(2, ⟨#[65, 76, 76]⟩)],
  [(1, ⟨#[75, 69, 89, 87, 79, 82, 68]⟩), (1, ⟨#[40]⟩)],
  [(1, ⟨#[83, 85, 66, 74, 69, 67, 84]⟩), (3, ⟨#[]⟩)],
  [(1, ⟨#[77, 79, 68, 83, 69, 81]⟩), (1, ⟨#[97]⟩)]]
def badTabs (j : Nat) : List (Int × ByteArray) := badTab.getD j []
theorem bad_read : ∀ j, j < 14 → (∀ p ∈ badTabs j, p.2.size ≤ 1100) ∧ (badTabs j).length ≤ 2 ∧ (readP ⟨1, [1]⟩ (flatW (badTabs j))).1.length = 0 ∧ (readP ⟨1, [1]⟩ (flatW (badTabs j))).2.2 = 3 := by decide +kernel
def allW (k : Nat) : List (Int × ByteArray) := List.replicate k (1, ⟨#[65, 76, 76]⟩)
theorem many_read : ∀ k, k < 60 → (readP ⟨1, []⟩ (flatW (allW k))).2.2 = if k = 0 then 3 else if 39 < k then 13 else 0 := by decide +kernel
theorem cellsW_snoc : ∀ (l : List (Int × ByteArray)) (k : Int) (t : ByteArray), cellsW (l ++ [(k, t)]) = cellsW l ++ [.int .i64 k, .string t, .slice none 0 0]
  | [], _, _ => rfl
  | p :: r, k, t => by
    have := cellsW_snoc r k t
    simp [cellsW, this]
theorem allW_succ (k : Nat) : allW (k + 1) = allW k ++ [(1, ⟨#[65, 76, 76]⟩)] := by simp [allW, List.replicate_succ']
theorem Tryd.infoWord : (Tryd.prog.info? 24).map (fun i => (i.zero, i.size, i.bytes)) = some (some (.agg #[.int .i64 0, .string ⟨#[]⟩, .slice none 0 0]), 3, 48) := by kernel_rfl

/-- What the loop keeps: so many words. -/
structure ManySt (w wr : World) (k : Nat) (o : Value) (hh : Option Nat) : Prop where
  sl : Sl wr 24 3 o hh k (cellsW (allW k))
  bel : Below w.heap.size w wr
  own : ∀ b, hh = some b → w.heap.size ≤ b
theorem ManySt.push {w wr w3 w4 : World} {k : Nat} {o v' : Value} {hh h' : Option Nat} (p : ManySt w wr k o hh) (hb : Below wr.heap.size wr w3)
    (hs : Sl w4 24 3 v' h' (k + 1) (cellsW (allW k) ++ [.int .i64 1, .string ⟨#[65, 76, 76]⟩, .slice none 0 0])) (hc : Chg hh.toList w3 w4) (ho : h' = hh ∨ ∃ b, h' = some b ∧ w3.heap.size ≤ b) : ManySt w w4 (k + 1) v' h' := by
  have hb3 := p.bel.trans (hb.mono p.bel.size)
  refine ⟨?_, hb3.trans (hc.below hb3.size fun b hb => p.own b (by simpa using hb)), fun b hb => ?_⟩
  · rw [allW_succ, cellsW_snoc]
    exact hs
  · rcases ho with h1 | ⟨b', h1, h2⟩
    · exact p.own b (by rw [← h1]; exact hb)
    · rw [h1] at hb
      injection hb with hb
      have := hb3.size
      omega

set_option maxRecDepth 100000 in
set_option maxHeartbeats 8000000 in
theorem critBad_any (a n : Nat) (ha : a ≤ 255) (hn : n ≤ 255) (w : World) (hm : Mx w) :
    Calls Tryd.prog 3 #[.int .u8 (a : Int), .int .u8 (n : Int)] w fun e w' => e = .returned (.bool true) ∧ Below w.heap.size w w' := by
  obtain ⟨i0, hi, hz0, hz1, hz2⟩ := info_parts Tryd.infoWord
  have hw := fun s W => word_anyL s W
  have hNu := fun n W => numC_any n W
  have hAw := fun W hm => awake_anyL W hm
  obtain ⟨j, hj⟩ : ∃ j, a % 14 = j := ⟨_, rfl⟩
  have hj14 : j < 14 := by omega
  have hja : (a : Int) % 14 = (j : Int) := by omega
  obtain ⟨k, hk⟩ : ∃ k, n % 60 = k := ⟨_, rfl⟩
  have hk60 : k < 60 := by omega
  have hkn : (n : Int) % 60 = (k : Int) := by omega
  have HL0 : Hid (LS w []) := Lib.hid fun p hp => by cases hp
  have HB0 := Lib.hid (Below.refl w.heap.size w)
  clear hj hk
  go_enter Tryd.func3, Tryd.ntmps3
  go_upto_region 2 with (first
    | (go_at_call 4; have HG1 := HB0; refine (hw _ _).mono ?_; rintro e w1 ⟨rfl, hb⟩; have HL1 := Lib.hid (HL0.out.below hb); have HB1 := Lib.hid (HB0.out.trans (hb.mono (by have := HB0.out.size; simp <;> omega))); clear hb HG1 HB0 HL0)
    | (go_at_call 4; have HG2 := HB1; refine (hw _ _).mono ?_; rintro e w2 ⟨rfl, hb⟩; have HL2 := Lib.hid ((HL1.out.lay 24 [(1, ⟨#[110, 111, 110, 101]⟩)] 1 (w1.heap.size) (by simp) rfl (by decide)).below hb); have HB2 := Lib.hid ((HB1.out.alloc (by have := HB1.out.size; simp <;> omega) _).trans (hb.mono (by have := HB1.out.size; simp <;> omega))); clear hb HG2 HB1 HL1)
    | (go_at_call 4; have HG3 := HB2; refine (hw _ _).mono ?_; rintro e w3 ⟨rfl, hb⟩; have HL3 := Lib.hid ((HL2.out.lay 24 [(1, ⟨#[78, 79, 84]⟩)] 1 (w2.heap.size) (by simp) rfl (by decide)).below hb); have HB3 := Lib.hid ((HB2.out.alloc (by have := HB2.out.size; simp <;> omega) _).trans (hb.mono (by have := HB2.out.size; simp <;> omega))); clear hb HG3 HB2 HL2)
    | (go_at_call 4; have HG4 := HB3; refine (hw _ _).mono ?_; rintro e w4 ⟨rfl, hb⟩; have HL4 := Lib.hid (HL3.out.below hb); have HB4 := Lib.hid (HB3.out.trans (hb.mono (by have := HB3.out.size; simp <;> omega))); clear hb HG4 HB3 HL3)
    | (go_at_call 4; have HG5 := HB4; refine (hw _ _).mono ?_; rintro e w5 ⟨rfl, hb⟩; have HL5 := Lib.hid ((HL4.out.lay 24 [(1, ⟨#[79, 82]⟩), (1, ⟨#[65, 76, 76]⟩)] 2 (w4.heap.size) (by simp) rfl (by decide)).below hb); have HB5 := Lib.hid ((HB4.out.alloc (by have := HB4.out.size; simp <;> omega) _).trans (hb.mono (by have := HB4.out.size; simp <;> omega))); clear hb HG5 HB4 HL4)
    | (go_at_call 4; have HG6 := HB5; refine (hw _ _).mono ?_; rintro e w6 ⟨rfl, hb⟩; have HL6 := Lib.hid (HL5.out.below hb); have HB6 := Lib.hid (HB5.out.trans (hb.mono (by have := HB5.out.size; simp <;> omega))); clear hb HG6 HB5 HL5)
    | (go_at_call 4; have HG7 := HB6; refine (hw _ _).mono ?_; rintro e w7 ⟨rfl, hb⟩; have HL7 := Lib.hid ((HL6.out.lay 24 [(1, ⟨#[66, 69, 70, 79, 82, 69]⟩), (1, ⟨#[120]⟩)] 2 (w6.heap.size) (by simp) rfl (by decide)).below hb); have HB7 := Lib.hid ((HB6.out.alloc (by have := HB6.out.size; simp <;> omega) _).trans (hb.mono (by have := HB6.out.size; simp <;> omega))); clear hb HG7 HB6 HL6)
    | (go_at_call 4; have HG8 := HB7; refine (hw _ _).mono ?_; rintro e w8 ⟨rfl, hb⟩; have HL8 := Lib.hid (HL7.out.below hb); have HB8 := Lib.hid (HB7.out.trans (hb.mono (by have := HB7.out.size; simp <;> omega))); clear hb HG8 HB7 HL7)
    | (go_at_call 4; have HG9 := HB8; refine (hw _ _).mono ?_; rintro e w9 ⟨rfl, hb⟩; have HL9 := Lib.hid ((HL8.out.lay 24 [(1, ⟨#[76, 65, 82, 71, 69, 82]⟩), (1, ⟨#[45, 49]⟩)] 2 (w8.heap.size) (by simp) rfl (by decide)).below hb); have HB9 := Lib.hid ((HB8.out.alloc (by have := HB8.out.size; simp <;> omega) _).trans (hb.mono (by have := HB8.out.size; simp <;> omega))); clear hb HG9 HB8 HL8)
    | (go_at_call 4; have HG10 := HB9; refine (hw _ _).mono ?_; rintro e w10 ⟨rfl, hb⟩; have HL10 := Lib.hid (HL9.out.below hb); have HB10 := Lib.hid (HB9.out.trans (hb.mono (by have := HB9.out.size; simp <;> omega))); clear hb HG10 HB9 HL9)
    | (go_at_call 4; have HG11 := HB10; refine (hw _ _).mono ?_; rintro e w11 ⟨rfl, hb⟩; have HL11 := Lib.hid ((HL10.out.lay 24 [(1, ⟨#[72, 69, 65, 68, 69, 82]⟩), (1, ⟨#[97]⟩)] 2 (w10.heap.size) (by simp) rfl (by decide)).below hb); have HB11 := Lib.hid ((HB10.out.alloc (by have := HB10.out.size; simp <;> omega) _).trans (hb.mono (by have := HB10.out.size; simp <;> omega))); clear hb HG11 HB10 HL10)
    | (go_at_call 4; have HG12 := HB11; refine (hw _ _).mono ?_; rintro e w12 ⟨rfl, hb⟩; have HL12 := Lib.hid (HL11.out.below hb); have HB12 := Lib.hid (HB11.out.trans (hb.mono (by have := HB11.out.size; simp <;> omega))); clear hb HG12 HB11 HL11)
    | (go_at_call 4; have HG13 := HB12; refine (hw _ _).mono ?_; rintro e w13 ⟨rfl, hb⟩; have HL13 := Lib.hid ((HL12.out.lay 24 [(1, ⟨#[85, 73, 68]⟩), (1, ⟨#[48]⟩)] 2 (w12.heap.size) (by simp) rfl (by decide)).below hb); have HB13 := Lib.hid ((HB12.out.alloc (by have := HB12.out.size; simp <;> omega) _).trans (hb.mono (by have := HB12.out.size; simp <;> omega))); clear hb HG13 HB12 HL12)
    | (go_at_call 4; have HG14 := HB13; refine (hw _ _).mono ?_; rintro e w14 ⟨rfl, hb⟩; have HL14 := Lib.hid ((((HL13.out.lay 24 [(1, ⟨#[49, 58]⟩)] 1 (w13.heap.size) (by simp) rfl (by decide)).lay 24 [(3, ⟨#[]⟩)] 1 (w13.heap.size + 1) (by simp) rfl (by decide)).lay 24 [(2, ⟨#[65, 76, 76]⟩)] 1 (w13.heap.size + 1 + 1) (by simp) rfl (by decide)).below hb); have HB14 := Lib.hid ((((HB13.out.alloc (by have := HB13.out.size; simp <;> omega) _).alloc (by have := HB13.out.size; simp <;> omega) _).alloc (by have := HB13.out.size; simp <;> omega) _).trans (hb.mono (by have := HB13.out.size; simp <;> omega))); clear hb HG14 HB13 HL13)
    | (go_at_call 4; have HG15 := HB14; refine (hw _ _).mono ?_; rintro e w15 ⟨rfl, hb⟩; have HL15 := Lib.hid (HL14.out.below hb); have HB15 := Lib.hid (HB14.out.trans (hb.mono (by have := HB14.out.size; simp <;> omega))); clear hb HG15 HB14 HL14)
    | (go_at_call 4; have HG16 := HB15; refine (hw _ _).mono ?_; rintro e w16 ⟨rfl, hb⟩; have HL16 := Lib.hid ((HL15.out.lay 24 [(1, ⟨#[75, 69, 89, 87, 79, 82, 68]⟩), (1, ⟨#[40]⟩)] 2 (w15.heap.size) (by simp) rfl (by decide)).below hb); have HB16 := Lib.hid ((HB15.out.alloc (by have := HB15.out.size; simp <;> omega) _).trans (hb.mono (by have := HB15.out.size; simp <;> omega))); clear hb HG16 HB15 HL15)
    | (go_at_call 4; have HG17 := HB16; refine (hw _ _).mono ?_; rintro e w17 ⟨rfl, hb⟩; have HL17 := Lib.hid ((HL16.out.lay 24 [(1, ⟨#[83, 85, 66, 74, 69, 67, 84]⟩), (3, ⟨#[]⟩)] 2 (w16.heap.size) (by simp) rfl (by decide)).below hb); have HB17 := Lib.hid ((HB16.out.alloc (by have := HB16.out.size; simp <;> omega) _).trans (hb.mono (by have := HB16.out.size; simp <;> omega))); clear hb HG17 HB16 HL16)
    | (go_at_call 4; have HG18 := HB17; refine (hw _ _).mono ?_; rintro e w18 ⟨rfl, hb⟩; have HL18 := Lib.hid (HL17.out.below hb); have HB18 := Lib.hid (HB17.out.trans (hb.mono (by have := HB17.out.size; simp <;> omega))); clear hb HG18 HB17 HL17)
    | fail)
  have HLF := Lib.hid (((HL18.out.lay 24 [(1, ⟨#[77, 79, 68, 83, 69, 81]⟩), (1, ⟨#[97]⟩)] 2 (w18.heap.size) (by simp) rfl (by decide))).below ((Below.refl _ _).alloc (Nat.le_refl _) (.cells #[.slice none 0 0, .slice (some ⟨w1.heap.size, 0, none⟩) 1 1, .slice (some ⟨w2.heap.size, 0, none⟩) 1 1, .slice (some ⟨w4.heap.size, 0, none⟩) 2 2, .slice (some ⟨w6.heap.size, 0, none⟩) 2 2, .slice (some ⟨w8.heap.size, 0, none⟩) 2 2, .slice (some ⟨w10.heap.size, 0, none⟩) 2 2, .slice (some ⟨w12.heap.size, 0, none⟩) 2 2, .slice (some ⟨w13.heap.size, 0, none⟩) 1 1, .slice (some ⟨w13.heap.size + 1, 0, none⟩) 1 1, .slice (some ⟨w13.heap.size + 1 + 1, 0, none⟩) 1 1, .slice (some ⟨w15.heap.size, 0, none⟩) 2 2, .slice (some ⟨w16.heap.size, 0, none⟩) 2 2, .slice (some ⟨w18.heap.size, 0, none⟩) 2 2] 22)))
  have HBF := Lib.hid ((HB18.out.alloc HB18.out.size (.cells #[.int .i64 1, .string ⟨#[77, 79, 68, 83, 69, 81]⟩, .slice none 0 0, .int .i64 1, .string ⟨#[97]⟩, .slice none 0 0] 24)).alloc (by have := HB18.out.size; simp; omega) (.cells #[.slice none 0 0, .slice (some ⟨w1.heap.size, 0, none⟩) 1 1, .slice (some ⟨w2.heap.size, 0, none⟩) 1 1, .slice (some ⟨w4.heap.size, 0, none⟩) 2 2, .slice (some ⟨w6.heap.size, 0, none⟩) 2 2, .slice (some ⟨w8.heap.size, 0, none⟩) 2 2, .slice (some ⟨w10.heap.size, 0, none⟩) 2 2, .slice (some ⟨w12.heap.size, 0, none⟩) 2 2, .slice (some ⟨w13.heap.size, 0, none⟩) 1 1, .slice (some ⟨w13.heap.size + 1, 0, none⟩) 1 1, .slice (some ⟨w13.heap.size + 1 + 1, 0, none⟩) 1 1, .slice (some ⟨w15.heap.size, 0, none⟩) 2 2, .slice (some ⟨w16.heap.size, 0, none⟩) 2 2, .slice (some ⟨w18.heap.size, 0, none⟩) 2 2] 22))
  have hBO := Blk.new (w18.alloc (.cells #[.int .i64 1, .string ⟨#[77, 79, 68, 83, 69, 81]⟩, .slice none 0 0, .int .i64 1, .string ⟨#[97]⟩, .slice none 0 0] 24)) 22 #[.slice none 0 0, .slice (some ⟨w1.heap.size, 0, none⟩) 1 1, .slice (some ⟨w2.heap.size, 0, none⟩) 1 1, .slice (some ⟨w4.heap.size, 0, none⟩) 2 2, .slice (some ⟨w6.heap.size, 0, none⟩) 2 2, .slice (some ⟨w8.heap.size, 0, none⟩) 2 2, .slice (some ⟨w10.heap.size, 0, none⟩) 2 2, .slice (some ⟨w12.heap.size, 0, none⟩) 2 2, .slice (some ⟨w13.heap.size, 0, none⟩) 1 1, .slice (some ⟨w13.heap.size + 1, 0, none⟩) 1 1, .slice (some ⟨w13.heap.size + 1 + 1, 0, none⟩) 1 1, .slice (some ⟨w15.heap.size, 0, none⟩) 2 2, .slice (some ⟨w16.heap.size, 0, none⟩) 2 2, .slice (some ⟨w18.heap.size, 0, none⟩) 2 2]
  have hB2 : Blk ((w18.alloc (.cells #[.int .i64 1, .string ⟨#[77, 79, 68, 83, 69, 81]⟩, .slice none 0 0, .int .i64 1, .string ⟨#[97]⟩, .slice none 0 0] 24)).alloc (.cells #[.slice none 0 0, .slice (some ⟨w1.heap.size, 0, none⟩) 1 1, .slice (some ⟨w2.heap.size, 0, none⟩) 1 1, .slice (some ⟨w4.heap.size, 0, none⟩) 2 2, .slice (some ⟨w6.heap.size, 0, none⟩) 2 2, .slice (some ⟨w8.heap.size, 0, none⟩) 2 2, .slice (some ⟨w10.heap.size, 0, none⟩) 2 2, .slice (some ⟨w12.heap.size, 0, none⟩) 2 2, .slice (some ⟨w13.heap.size, 0, none⟩) 1 1, .slice (some ⟨w13.heap.size + 1, 0, none⟩) 1 1, .slice (some ⟨w13.heap.size + 1 + 1, 0, none⟩) 1 1, .slice (some ⟨w15.heap.size, 0, none⟩) 2 2, .slice (some ⟨w16.heap.size, 0, none⟩) 2 2, .slice (some ⟨w18.heap.size, 0, none⟩) 2 2] 22)) (w18.heap.size + 1) 22 #[.slice none 0 0, .slice (some ⟨w1.heap.size, 0, none⟩) 1 1, .slice (some ⟨w2.heap.size, 0, none⟩) 1 1, .slice (some ⟨w4.heap.size, 0, none⟩) 2 2, .slice (some ⟨w6.heap.size, 0, none⟩) 2 2, .slice (some ⟨w8.heap.size, 0, none⟩) 2 2, .slice (some ⟨w10.heap.size, 0, none⟩) 2 2, .slice (some ⟨w12.heap.size, 0, none⟩) 2 2, .slice (some ⟨w13.heap.size, 0, none⟩) 1 1, .slice (some ⟨w13.heap.size + 1, 0, none⟩) 1 1, .slice (some ⟨w13.heap.size + 1 + 1, 0, none⟩) 1 1, .slice (some ⟨w15.heap.size, 0, none⟩) 2 2, .slice (some ⟨w16.heap.size, 0, none⟩) 2 2, .slice (some ⟨w18.heap.size, 0, none⟩) 2 2] := by simpa using hBO
  have hsel : ∃ vj, ((w18.alloc (.cells #[.int .i64 1, .string ⟨#[77, 79, 68, 83, 69, 81]⟩, .slice none 0 0, .int .i64 1, .string ⟨#[97]⟩, .slice none 0 0] 24)).alloc (.cells #[.slice none 0 0, .slice (some ⟨w1.heap.size, 0, none⟩) 1 1, .slice (some ⟨w2.heap.size, 0, none⟩) 1 1, .slice (some ⟨w4.heap.size, 0, none⟩) 2 2, .slice (some ⟨w6.heap.size, 0, none⟩) 2 2, .slice (some ⟨w8.heap.size, 0, none⟩) 2 2, .slice (some ⟨w10.heap.size, 0, none⟩) 2 2, .slice (some ⟨w12.heap.size, 0, none⟩) 2 2, .slice (some ⟨w13.heap.size, 0, none⟩) 1 1, .slice (some ⟨w13.heap.size + 1, 0, none⟩) 1 1, .slice (some ⟨w13.heap.size + 1 + 1, 0, none⟩) 1 1, .slice (some ⟨w15.heap.size, 0, none⟩) 2 2, .slice (some ⟨w16.heap.size, 0, none⟩) 2 2, .slice (some ⟨w18.heap.size, 0, none⟩) 2 2] 22)).cell? ⟨w18.heap.size + 1, j, none⟩ = some vj ∧ WsAt ((w18.alloc (.cells #[.int .i64 1, .string ⟨#[77, 79, 68, 83, 69, 81]⟩, .slice none 0 0, .int .i64 1, .string ⟨#[97]⟩, .slice none 0 0] 24)).alloc (.cells #[.slice none 0 0, .slice (some ⟨w1.heap.size, 0, none⟩) 1 1, .slice (some ⟨w2.heap.size, 0, none⟩) 1 1, .slice (some ⟨w4.heap.size, 0, none⟩) 2 2, .slice (some ⟨w6.heap.size, 0, none⟩) 2 2, .slice (some ⟨w8.heap.size, 0, none⟩) 2 2, .slice (some ⟨w10.heap.size, 0, none⟩) 2 2, .slice (some ⟨w12.heap.size, 0, none⟩) 2 2, .slice (some ⟨w13.heap.size, 0, none⟩) 1 1, .slice (some ⟨w13.heap.size + 1, 0, none⟩) 1 1, .slice (some ⟨w13.heap.size + 1 + 1, 0, none⟩) 1 1, .slice (some ⟨w15.heap.size, 0, none⟩) 2 2, .slice (some ⟨w16.heap.size, 0, none⟩) 2 2, .slice (some ⟨w18.heap.size, 0, none⟩) 2 2] 22)) vj (flatW (badTabs j)) := by
    rcases j with _ | _ | _ | _ | _ | _ | _ | _ | _ | _ | _ | _ | _ | _ | j
    · exact ⟨_, (hB2.cell 0).trans rfl, WsAt.nil ⟨by simp, .inl ⟨rfl, rfl⟩⟩⟩
    · exact ⟨_, (hB2.cell 1).trans rfl, HLF.out (.slice (some ⟨w1.heap.size, 0, none⟩) 1 1, [(1, ⟨#[110, 111, 110, 101]⟩)]) (by repeat (first | exact List.mem_append_right _ (List.mem_singleton.2 rfl) | apply List.mem_append_left))⟩
    · exact ⟨_, (hB2.cell 2).trans rfl, HLF.out (.slice (some ⟨w2.heap.size, 0, none⟩) 1 1, [(1, ⟨#[78, 79, 84]⟩)]) (by repeat (first | exact List.mem_append_right _ (List.mem_singleton.2 rfl) | apply List.mem_append_left))⟩
    · exact ⟨_, (hB2.cell 3).trans rfl, HLF.out (.slice (some ⟨w4.heap.size, 0, none⟩) 2 2, [(1, ⟨#[79, 82]⟩), (1, ⟨#[65, 76, 76]⟩)]) (by repeat (first | exact List.mem_append_right _ (List.mem_singleton.2 rfl) | apply List.mem_append_left))⟩
    · exact ⟨_, (hB2.cell 4).trans rfl, HLF.out (.slice (some ⟨w6.heap.size, 0, none⟩) 2 2, [(1, ⟨#[66, 69, 70, 79, 82, 69]⟩), (1, ⟨#[120]⟩)]) (by repeat (first | exact List.mem_append_right _ (List.mem_singleton.2 rfl) | apply List.mem_append_left))⟩
    · exact ⟨_, (hB2.cell 5).trans rfl, HLF.out (.slice (some ⟨w8.heap.size, 0, none⟩) 2 2, [(1, ⟨#[76, 65, 82, 71, 69, 82]⟩), (1, ⟨#[45, 49]⟩)]) (by repeat (first | exact List.mem_append_right _ (List.mem_singleton.2 rfl) | apply List.mem_append_left))⟩
    · exact ⟨_, (hB2.cell 6).trans rfl, HLF.out (.slice (some ⟨w10.heap.size, 0, none⟩) 2 2, [(1, ⟨#[72, 69, 65, 68, 69, 82]⟩), (1, ⟨#[97]⟩)]) (by repeat (first | exact List.mem_append_right _ (List.mem_singleton.2 rfl) | apply List.mem_append_left))⟩
    · exact ⟨_, (hB2.cell 7).trans rfl, HLF.out (.slice (some ⟨w12.heap.size, 0, none⟩) 2 2, [(1, ⟨#[85, 73, 68]⟩), (1, ⟨#[48]⟩)]) (by repeat (first | exact List.mem_append_right _ (List.mem_singleton.2 rfl) | apply List.mem_append_left))⟩
    · exact ⟨_, (hB2.cell 8).trans rfl, HLF.out (.slice (some ⟨w13.heap.size, 0, none⟩) 1 1, [(1, ⟨#[49, 58]⟩)]) (by repeat (first | exact List.mem_append_right _ (List.mem_singleton.2 rfl) | apply List.mem_append_left))⟩
    · exact ⟨_, (hB2.cell 9).trans rfl, HLF.out (.slice (some ⟨w13.heap.size + 1, 0, none⟩) 1 1, [(3, ⟨#[]⟩)]) (by repeat (first | exact List.mem_append_right _ (List.mem_singleton.2 rfl) | apply List.mem_append_left))⟩
    · exact ⟨_, (hB2.cell 10).trans rfl, HLF.out (.slice (some ⟨w13.heap.size + 1 + 1, 0, none⟩) 1 1, [(2, ⟨#[65, 76, 76]⟩)]) (by repeat (first | exact List.mem_append_right _ (List.mem_singleton.2 rfl) | apply List.mem_append_left))⟩
    · exact ⟨_, (hB2.cell 11).trans rfl, HLF.out (.slice (some ⟨w15.heap.size, 0, none⟩) 2 2, [(1, ⟨#[75, 69, 89, 87, 79, 82, 68]⟩), (1, ⟨#[40]⟩)]) (by repeat (first | exact List.mem_append_right _ (List.mem_singleton.2 rfl) | apply List.mem_append_left))⟩
    · exact ⟨_, (hB2.cell 12).trans rfl, HLF.out (.slice (some ⟨w16.heap.size, 0, none⟩) 2 2, [(1, ⟨#[83, 85, 66, 74, 69, 67, 84]⟩), (3, ⟨#[]⟩)]) (by repeat (first | exact List.mem_append_right _ (List.mem_singleton.2 rfl) | apply List.mem_append_left))⟩
    · exact ⟨_, (hB2.cell 13).trans rfl, HLF.out (.slice (some ⟨w18.heap.size, 0, none⟩) 2 2, [(1, ⟨#[77, 79, 68, 83, 69, 81]⟩), (1, ⟨#[97]⟩)]) (by repeat (first | exact List.mem_append_right _ (List.mem_singleton.2 rfl) | apply List.mem_append_left))⟩
    · omega
  have hWx : ∃ W, ((w18.alloc (.cells #[.int .i64 1, .string ⟨#[77, 79, 68, 83, 69, 81]⟩, .slice none 0 0, .int .i64 1, .string ⟨#[97]⟩, .slice none 0 0] 24)).alloc (.cells #[.slice none 0 0, .slice (some ⟨w1.heap.size, 0, none⟩) 1 1, .slice (some ⟨w2.heap.size, 0, none⟩) 1 1, .slice (some ⟨w4.heap.size, 0, none⟩) 2 2, .slice (some ⟨w6.heap.size, 0, none⟩) 2 2, .slice (some ⟨w8.heap.size, 0, none⟩) 2 2, .slice (some ⟨w10.heap.size, 0, none⟩) 2 2, .slice (some ⟨w12.heap.size, 0, none⟩) 2 2, .slice (some ⟨w13.heap.size, 0, none⟩) 1 1, .slice (some ⟨w13.heap.size + 1, 0, none⟩) 1 1, .slice (some ⟨w13.heap.size + 1 + 1, 0, none⟩) 1 1, .slice (some ⟨w15.heap.size, 0, none⟩) 2 2, .slice (some ⟨w16.heap.size, 0, none⟩) 2 2, .slice (some ⟨w18.heap.size, 0, none⟩) 2 2] 22)) = W := ⟨_, rfl⟩
  obtain ⟨W, hWW⟩ := hWx
  obtain ⟨vj, hcj, hwj⟩ := hsel
  rw [hWW] at hcj hwj HBF
  have HWJ := Lib.hid hwj
  clear hB2 hBO HLF hwj
  have hsiz := HBF.out.size
  have HMW := Lib.hid (hm.below HBF.out)
  obtain ⟨t1, t2, t3, t4⟩ := bad_read j hj14
  have hrd := critRead_any (W.alloc (.cells #[.int .i64 1] 3)) vj (.slice (some ⟨W.heap.size, 0, none⟩) 1 1) ⟨1, [1]⟩ (flatW (badTabs j)) (HWJ.out.below ((Below.refl _ _).alloc (Nat.le_refl _) _)) (okL_flat _ t1)
    ⟨(Sl.lit W 3 [.int .i64 1] 1 rfl (by decide)).reads [] (by simp), by simp, by simp, HMW.out.below ((Below.refl _ _).alloc (Nat.le_refl _) _)⟩ (by rw [szL_flat]; omega)
  have HBW := Lib.hid (HBF.out.alloc hsiz (.cells #[.int .i64 1] 3))
  obtain ⟨rr, hrr⟩ : ∃ rr, readP ⟨1, [1]⟩ (flatW (badTabs j)) = rr := ⟨_, rfl⟩
  rw [hrr] at hrd t3 t4
  obtain ⟨r1, r2, r3⟩ := rr
  simp only at t3 t4
  obtain rfl : r1 = [] := List.eq_nil_of_length_eq_zero t3
  subst t4
  clear hrr t1 t2 t3 hm HWJ
  have hMr := many_read k hk60
  have HMR := Lib.hid hMr
  clear hMr
  go_wp2_with (first
    | (go_at_call 5; refine hrd.mono ?_; rintro e w3 ⟨ov, hb, xs, F, rfl, hs, hx, hb3⟩; obtain ⟨Af, cf, rfl, _, _⟩ := hs.form; have HB3 := Lib.hid (HBW.out.trans (hb3.mono HBW.out.size)); have HM3 := Lib.hid ((HMW.out.below ((Below.refl _ _).alloc (Nat.le_refl _) (.cells #[.int .i64 1] 3))).below hb3); clear hs hx hb3 hrd)
    | fail)
  rw [hkn]
  go_loopw [10, 12] (fun o i wr => ∃ (q : Nat) (hh : Option Nat), q ≤ k ∧ i = .int .i64 q ∧ Hid (ManySt w3 wr q o hh)) (fun _ i _ => k - (intOf i).toNat)
  case atStart => exact ⟨0, none, Nat.zero_le _, rfl, Lib.hid ⟨Sl.nil _ _ _, Below.refl _ _, by simp⟩⟩
  case round =>
    obtain ⟨q, hh, hq, rfl, HP⟩ := hrel
    by_cases hlt : q < k
    · have hsl3 := fun wn (hb : Below wr.heap.size wr wn) => (HP.out.sl.keep fun b hbb => hb.block b (HP.out.sl.lt b hbb) : Sl wn 24 3 u10 hh q (cellsW (allW q)))
      go_wp2_with (first
        | (go_at_call 4; refine (hw _ _).mono ?_; rintro e wn ⟨rfl, hbn⟩; have HBN := Lib.hid hbn; have HO3 := Lib.hid (hsl3 wn hbn); clear hbn hsl3)
        | (at_builtin; refine wpList_append_slX rfl _ _ 22 rfl Tryd.underlying22 hi hz0 hz1 hz2 rfl (by decide) HO3.out rfl wn.heap.size rfl 1 1 rfl rfl ?_ ?_ ?_ ?_)
        | fail)
      · simp [Value.oneCell']
      · unfold maxLen
        omega
      · omega
      · intro v' h' w4 r1 r2 r3
        have hst := HP.out.push HBN.out (by simpa using r1) r2 (by simpa using r3)
        have HST := Lib.hid hst
        clear hst r1 r2 r3 HO3
        go_wp2
        refine ⟨?_, by simp [intOf]; omega⟩
        first | exact ⟨q + 1, _, by omega, by go_num, HST⟩ | ((repeat apply Exists.intro); exact ⟨⟨q + 1, _, by omega, by go_num, HST⟩, rfl⟩)
    · have hqk : q = k := by omega
      subst hqk
      have hrd2 := critRead_any wr u10 (.slice none 0 0) ⟨1, []⟩ (flatW (allW q)) (WsAt.of_sl _ (by simp [allW]) HP.out.sl) (okL_flat _ (by intro p hp; rw [List.eq_of_mem_replicate hp]; decide)) (EAt.none (HM3.out.below HP.out.bel) 1) (by rw [szL_flat]; simp [allW]; omega)
      obtain ⟨Ao, co, hov, _, _⟩ := HP.out.sl.form
      have HBR := Lib.hid (HB3.out.trans (HP.out.bel.mono HB3.out.size))
      have HMR2 := Lib.hid (HM3.out.below HP.out.bel)
      obtain ⟨rr, hrr⟩ : ∃ rr, readP ⟨1, []⟩ (flatW (allW q)) = rr := ⟨_, rfl⟩
      have hM2 := HMR.out
      rw [hrr] at hrd2 hM2
      obtain ⟨r1, rb, r3⟩ := rr
      simp only at hM2
      clear hrr HP HMR
      subst hov
      have hrd3 : Calls Tryd.prog 5 #[.slice Ao q co, .int .i64 1, .slice none 0 0] wr (ROut wr (r1, rb, r3)) := hrd2
      clear hrd2
      by_cases h0 : q = 0
      · subst h0
        rw [if_pos rfl] at hM2
        subst hM2
        go_wp2_with (first
          | (go_at_call 5; refine hrd3.mono ?_; rintro e w5 ⟨ov, hb, xs, F, rfl, hs, hx, hb5⟩; obtain ⟨Ag, cg, rfl, _, _⟩ := hs.form; have HB5 := Lib.hid (HBR.out.trans (hb5.mono HBR.out.size)); have HM5 := Lib.hid (HMR2.out.below hb5); clear hs hx hb5 hrd3)
          | (go_at_call 6; refine (hNu _ _).mono ?_; rintro e wn ⟨rfl, rfl⟩)
          | (go_at_call 7; refine (hAw _ HM5.out).mono ?_; rintro e w6 ⟨rfl, hb6⟩; have HB6 := Lib.hid (HB5.out.trans (hb6.mono HB5.out.size)); clear hb6)
          | fail)
        go_ret
        exact ⟨rfl, HB6.out⟩
      · rw [if_neg h0] at hM2
        have hq0 : ((q : Int) == 0) = false := by simpa using h0
        by_cases h39 : 39 < q
        · rw [if_pos h39] at hM2
          subst hM2
          go_wp2_with (first
            | (go_at_call 5; refine hrd3.mono ?_; rintro e w5 ⟨ov, hb, xs, F, rfl, hs, hx, hb5⟩; obtain ⟨Ag, cg, rfl, _, _⟩ := hs.form; have HB5 := Lib.hid (HBR.out.trans (hb5.mono HBR.out.size)); have HM5 := Lib.hid (HMR2.out.below hb5); clear hs hx hb5 hrd3)
            | (go_at_call 6; refine (hNu _ _).mono ?_; rintro e wn ⟨rfl, rfl⟩)
            | (go_at_call 7; refine (hAw _ HM5.out).mono ?_; rintro e w6 ⟨rfl, hb6⟩; have HB6 := Lib.hid (HB5.out.trans (hb6.mono HB5.out.size)); clear hb6)
            | fail)
          go_ret
          exact ⟨rfl, HB6.out⟩
        · rw [if_neg h39] at hM2
          subst hM2
          have hd : decide ((39 : Int) < (q : Int)) = false := by simp; omega
          go_wp2_with (first
            | (go_at_call 5; refine hrd3.mono ?_; rintro e w5 ⟨ov, hb, xs, F, rfl, hs, hx, hb5⟩; obtain ⟨Ag, cg, rfl, _, _⟩ := hs.form; have HB5 := Lib.hid (HBR.out.trans (hb5.mono HBR.out.size)); have HM5 := Lib.hid (HMR2.out.below hb5); clear hs hx hb5 hrd3)
            | (go_at_call 6; refine (hNu _ _).mono ?_; rintro e wn ⟨rfl, rfl⟩)
            | (go_at_call 7; refine (hAw _ HM5.out).mono ?_; rintro e w6 ⟨rfl, hb6⟩; have HB6 := Lib.hid (HB5.out.trans (hb6.mono HB5.out.size)); clear hb6)
            | fail)
          go_ret
          exact ⟨rfl, HB6.out⟩

end Go.Proofs.YtnfabgbidkddhaaDoor
