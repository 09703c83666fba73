/-
  The walk of field.lines and of the iterator that it hands back.
-/
import Derived.RangeFuncNested
import Derived.RangeFuncBound
import Derived.RangeFuncCalls
import Derived.RangeFuncLeaves
import Derived.Shelf.Abstract
import Derived.Shelf.RegionOpen
import Derived.OwnWalkIn
import Derived.TacticsInMore
import Derived.LoopNIn
import Derived.LoopIn
import Derived.Test.YtmbibhphpjmboaaGreatDoorRangeOwn
import Derived.Test.YtmbibhphpjmboaaGreatDoorFirst
namespace Go.Proofs.YtmbibhphpjmboaaGreatDoor
open Go.Shelf Go.RowKit
attribute [local go_sem ↓] Go.wp_at_zero Go.wp_at_succ
attribute [local go_sem] Oper.semAt_some

theorem lines_any (s : ByteArray) (at_ t_ : Int) (w : World) :
    Calls Tryz.prog 164 #[.string s, .int .i64 at_, .int .i64 t_] w fun e w' => e = .returned (.func (.func 202) #[] #[.pointer (some ⟨w.heap.size + 1, 0, none⟩), .pointer (some ⟨w.heap.size + 1 + 1, 0, none⟩), .pointer (some ⟨w.heap.size, 0, none⟩)]) ∧ w' = ((w.alloc (.cells #[.string s] 9)).alloc (.cells #[.int .i64 at_] 3)).alloc (.cells #[.int .i64 t_] 3) := by
  go_enter Tryz.func164, Tryz.ntmps164
  go_wp2
  go_ret
  exact ⟨rfl, rfl⟩

/-- The line at a place, and the place behind it. -/
def lineAt (s : List UInt8) (p : Nat) : List UInt8 × Nat :=
  if Lib.indexByte (s.drop p) 10 < 0 then (s.drop p, s.length)
  else (Lib.trimSuffix ((s.drop p).take (Lib.indexByte (s.drop p) 10).toNat) [13], p + ((Lib.indexByte (s.drop p) 10).toNat + 1))
theorem indexByte_lt (D : List UInt8) (c : UInt8) (h : ¬ Lib.indexByte D c < 0) : (Lib.indexByte D c).toNat < D.length := by
  obtain ⟨o, ho⟩ : ∃ o : Nat, Lib.indexByte D c = o := ⟨(Lib.indexByte D c).toNat, by omega⟩
  have h1 := (Lib.indexByte_some ho).1
  have h2 := (List.getElem?_eq_some_iff.1 h1).1
  omega
theorem linesF_step (s : List UInt8) (p f : Nat) (hp : p < s.length) : linesF (f + 1) (s.drop p) p = lineAt s p :: linesF f (s.drop (lineAt s p).2) (lineAt s p).2 := by
  have hne : s.drop p ≠ [] := by
    intro h
    have := congrArg List.length h
    simp at this
    omega
  rw [linesF, if_neg hne]
  unfold lineAt
  by_cases h : Lib.indexByte (s.drop p) 10 < 0
  · rw [if_pos h, if_pos h]
    have h1 : p + (s.drop p).length = s.length := by simp; omega
    rw [h1]
    have h2 : linesF f (s.drop s.length) s.length = [] := by
      cases f <;> simp [linesF]
    simp only [h2]
  · rw [if_neg h, if_neg h]
    simp only [List.drop_drop]
theorem trimSuffix_le (l p : List UInt8) : (Lib.trimSuffix l p).length ≤ l.length := by
  unfold Lib.trimSuffix
  split
  · rw [List.length_take]
    omega
  · exact Nat.le_refl _
theorem lineAt_next (s : List UInt8) (p : Nat) (hp : p < s.length) : p < (lineAt s p).2 ∧ (lineAt s p).2 ≤ s.length ∧ (lineAt s p).1.length ≤ s.length := by
  unfold lineAt
  by_cases h : Lib.indexByte (s.drop p) 10 < 0
  · rw [if_pos h]
    exact ⟨hp, Nat.le_refl _, by simp⟩
  · rw [if_neg h]
    have := indexByte_lt (s.drop p) 10 h
    simp only [List.length_drop] at this
    have h2 := trimSuffix_le ((s.drop p).take (Lib.indexByte (s.drop p) 10).toNat) [13]
    simp only [List.length_take, List.length_drop] at h2
    refine ⟨?_, ?_, ?_⟩ <;> simp only <;> omega

theorem extract_drop (s : List UInt8) (p : Nat) : (⟨s.toArray⟩ : ByteArray).extract p s.length = ⟨(s.drop p).toArray⟩ := by
  apply ByteArray.ext
  apply Array.ext'
  simp
  exact List.take_of_length_le (by simp)
theorem extract_take (s : List UInt8) (i : Nat) : (⟨s.toArray⟩ : ByteArray).extract 0 i = ⟨(s.take i).toArray⟩ := by
  apply ByteArray.ext
  apply Array.ext'
  simp

structure LSt (W : World) (BA BT BS : Nat) (s : List UInt8) (p : Nat) : Prop where
  a : Blk W BA 3 #[.int .i64 p]
  t : Blk W BT 3 #[.int .i64 s.length]
  s : Blk W BS 9 #[.string ⟨s.toArray⟩]
def KpL (BA BT BS : Nat) (A B : World) : Prop := B.heap[BA]? = A.heap[BA]? ∧ B.heap[BT]? = A.heap[BT]? ∧ B.heap[BS]? = A.heap[BS]?
theorem LSt.kp {W W' : World} {BA BT BS : Nat} {s : List UInt8} {p : Nat} (h : LSt W BA BT BS s p) (k : KpL BA BT BS W W') : LSt W' BA BT BS s p := ⟨k.1.trans h.a, k.2.1.trans h.t, k.2.2.trans h.s⟩

def posOf (BA : Nat) (W : World) : Nat := match W.cell? ⟨BA, 0, none⟩ with
  | some v => (intOf v).toNat
  | none => 0

set_option maxRecDepth 100000 in
set_option maxHeartbeats 2000000 in
theorem lines1_in (s : List UInt8) (hs : s.length ≤ 4294967296) (BA BT BS l : Nat) (hne : BA ≠ BT ∧ BA ≠ BS) (J Jx : List (List UInt8 × Nat) → World → Prop) (hJ : ∀ pre A A', J pre A → Chg [BA] A A' → J pre A')
    (hY : ∀ pre (x : List UInt8 × Nat) W, x.1.length ≤ s.length → x.2 ≤ s.length → J pre W → pre.length < s.length → YieldAt Fence.wide (2 - 1) Tryz.prog l #[.string ⟨x.1.toArray⟩, .int .i64 (x.2 : Nat)] W fun e W' =>
      (e = .returned (.bool true) ∧ J (pre ++ [x]) W' ∧ KpL BA BT BS W W') ∨ (e = .returned (.bool false) ∧ Jx (pre ++ [x]) W'))
    (W : World) (hL : LSt W BA BT BS s 0) (h0 : J [] W) :
    CallsIn Fence.wide 2 Tryz.prog 202 #[.func (.yield l) #[] #[], .pointer (some ⟨BA, 0, none⟩), .pointer (some ⟨BT, 0, none⟩), .pointer (some ⟨BS, 0, none⟩)] W fun e W' => (∃ v, e = .returned v) ∧
      ((∃ xs, xs = linesF s.length s 0 ∧ J xs W') ∨ (∃ pre, pre <+: linesF s.length s 0 ∧ Jx pre W')) := by
  refine callsIn_of_wp Tryz.func202 rfl trivial ?_ rfl
  simp only [Tryz.ntmps202, List.size_toArray, List.length_cons, List.length_nil, Nat.reduceAdd, Nat.reduceSub, Array.replicate_succ, Array.replicate_zero, List.push_toArray, List.append_toArray, List.nil_append, List.cons_append]
  refine wpIn_wide.2 ?_
  have HJ := Lib.hid hJ
  have HY := Lib.hid hY
  have HNE := Lib.hid hne
  clear hJ hY hne
  go_wp2_with fail
  go_loopw [5] (fun _ wr => ∃ (p f : Nat) (pre : List (List UInt8 × Nat)), p ≤ s.length ∧ Hid (LSt wr BA BT BS s p) ∧ Hid (J pre wr) ∧ Hid (linesF s.length s 0 = pre ++ linesF f (s.drop p) p ∧ s.length ≤ p + f ∧ pre.length ≤ p)) (fun _ wr => s.length - posOf BA wr)
  case atStart => exact ⟨0, s.length, [], Nat.zero_le _, Lib.hid hL, Lib.hid h0, Lib.hid ⟨by simp, by omega, by simp⟩⟩
  case round =>
    obtain ⟨p, f, pre, hp, HL, HP, HT⟩ := hrel
    have cA : wr.cell? ⟨BA, 0, none⟩ = some (.int .i64 p) := HL.out.a.cell 0
    have cT : wr.cell? ⟨BT, 0, none⟩ = some (.int .i64 s.length) := HL.out.t.cell 0
    have cS : wr.cell? ⟨BS, 0, none⟩ = some (.string ⟨s.toArray⟩) := HL.out.s.cell 0
    by_cases hlt : p < s.length
    · obtain ⟨f', rfl⟩ : ∃ f', f = f' + 1 := ⟨f - 1, by have := HT.out.2.1; omega⟩
      have hstep := linesF_step s p f' hlt
      have hnext := lineAt_next s p hlt
      have hx : (⟨s.toArray⟩ : ByteArray).extract p s.length = ⟨(s.drop p).toArray⟩ := extract_drop s p
      have hla : lineAt s p = if Lib.indexByte (s.drop p) 10 < 0 then (s.drop p, s.length) else (Lib.trimSuffix ((s.drop p).take (Lib.indexByte (s.drop p) 10).toNat) [13], p + ((Lib.indexByte (s.drop p) 10).toNat + 1)) := rfl
      have hDl : (s.drop p).length ≤ 4294967296 := by simp; omega
      have hil := indexByte_lt (s.drop p) 10
      obtain ⟨D, hD⟩ : ∃ D, s.drop p = D := ⟨_, rfl⟩
      rw [hD] at hx hla hDl hil hstep
      have HD := Lib.hid hD
      clear hD
      obtain ⟨x, hx2⟩ : ∃ x, x = lineAt s p := ⟨_, rfl⟩
      rw [← hx2] at hla hstep hnext
      have HX := Lib.hid hx2
      have HST := Lib.hid hstep
      have c1 := fun W => Tryz.strings_IndexByte ⟨D.toArray⟩ 10 W
      have c1 : ∀ W, Calls Tryz.prog 106 #[.string ⟨D.toArray⟩, .int .u8 10] W fun e w' => e = .returned (.int .i64 (Lib.indexByte D 10)) ∧ w' = W := c1
      have c2 := fun (l : List UInt8) (hl : l.length ≤ 4294967296) W => Tryz.strings_TrimSuffix ⟨l.toArray⟩ ⟨#[13]⟩ W (by show l.toArray.size ≤ _; simp; omega)
      have c2 : ∀ (l : List UInt8) (_ : l.length ≤ 4294967296) W, Calls Tryz.prog 203 #[.string ⟨l.toArray⟩, .string ⟨#[13]⟩] W fun e w' => e = .returned (.string ⟨(Lib.trimSuffix l [13]).toArray⟩) ∧ w' = W := c2
      generalize Lib.indexByte D 10 = r at c1 hla hil
      obtain ⟨x1, x2⟩ := x
      have hp0 : (0 : Int) ≤ (p : Int) := by omega
      have hp1 : (p : Int) ≤ (s.length : Int) := by omega
      have hp2 : (p : Int) < (s.length : Int) := by omega
      have HN := Lib.hid hnext
      clear hx2 hstep hnext
      go_wp2_with fail
      go_quiet (fail)
      go_upto_if 19 with (first
        | (go_at_call 106; refine (c1 _).mono ?_; rintro e w2 ⟨rfl, rfl⟩; clear c1)
        | fail)
      obtain ⟨wq, hwq⟩ : ∃ wq : World, wq = wr.drewN nq := ⟨_, rfl⟩
      rw [← hwq]
      have cA : wq.cell? ⟨BA, 0, none⟩ = some (.int .i64 p) := by rw [hwq]; exact cA
      have HWQ := Lib.hid hwq
      clear hwq
      go_cut [5, 6] (fun t nx wx => t = .string ⟨x1.toArray⟩ ∧ nx = .int .i64 (x2 : Nat) ∧ ∃ q, Hid (wx = wq.drewN q))
      case first =>
        by_cases hr : r < 0
        · rw [if_pos hr] at hla
          injection hla with hl1 hl2
          subst hl1 hl2
          have hr2 : ¬ 0 ≤ r := by omega
          go_wp2_with fail
          go_meet
          exact ⟨rfl, rfl, 0, Lib.hid rfl⟩
        · rw [if_neg hr] at hla
          injection hla with hl1 hl2
          subst hl1 hl2
          have hil2 := hil (by omega)
          obtain ⟨i, rfl⟩ : ∃ i : Nat, r = i := ⟨r.toNat, by omega⟩
          simp only [Int.toNat_natCast] at hil2 ⊢
          have hx3 : (⟨D.toArray⟩ : ByteArray).extract 0 i = ⟨(D.take i).toArray⟩ := extract_take D i
          have c3 := c2 (D.take i) (by rw [List.length_take]; omega)
          have hr2 : (0 : Int) ≤ (i : Int) := by omega
          have hr3 : (i : Int) ≤ (D.length : Int) := by omega
          have g1 : IntKind.i64.wrap ((p : Int) + (i : Int)) = (p : Int) + (i : Int) := IntWalk.i64_in _ (by omega)
          have g2 : IntKind.i64.wrap ((p : Int) + (i : Int) + 1) = (p : Int) + (i : Int) + 1 := IntWalk.i64_in _ (by omega)
          clear c2
          go_wp2_with fail
          go_region_with (first
            | (go_at_call 203; refine (c3 _).mono ?_; rintro e w2 ⟨rfl, rfl⟩)
            | fail)
          all_goals
            go_wp2_with fail
            go_meet
            exact ⟨rfl, by simp; omega, 1, Lib.hid rfl⟩
      case rest =>
        obtain ⟨rfl, rfl, q, HW⟩ := hcut
        obtain ⟨we, rfl⟩ : ∃ we : World, we = wc := ⟨_, rfl⟩
        have hce : Chg [] wr we := by
          rw [HW.out, HWQ.out]
          exact ((Chg.refl [] wr).drewN _).drewN _
        have hLe : LSt we BA BT BS s p := ⟨HL.out.a.chg hce (by simp), HL.out.t.chg hce (by simp), HL.out.s.chg hce (by simp)⟩
        have HLE := Lib.hid hLe
        obtain ⟨fn, tmps, assign, body, hy, hR⟩ := HY.out pre (x1, x2) we HN.out.2.2 HN.out.2.1 (HJ.out pre wr we HP.out (hce.mono (by simp))) (by have := HT.out.2.2; omega)
        simp only at hy
        clear hce hLe cA c1 c2 hx hla hil hDl
        refine ‹∀ (a : Act) (w : World), Code.wp Tryz.prog _ _ a w → _› _ _ ?_
        refine (wpIn_wide (n := 2)).1 ?_
        gi_wp2
        refine hR.mono ?_
        rintro e W3 (⟨rfl, hJ3, hk3⟩ | ⟨rfl, hJx3⟩)
        · have hL3 := HLE.out.kp hk3
          have cA : W3.cell? ⟨BA, 0, none⟩ = some (.int .i64 p) := hL3.a.cell 0
          have fA : W3.frozen? ⟨BA, 0, none⟩ = false := hL3.a.frozen 0
          have HL3 := Lib.hid hL3
          have HJ3 := Lib.hid hJ3
          clear hL3 hJ3 hk3 hR
          gi_wp2
          go_roundw
          case rel =>
            refine ⟨x2, f', pre ++ [(x1, x2)], HN.out.2.1, Lib.hid ⟨HL3.out.a.set 0 _, HL3.out.t.far (p := ⟨BA, 0, none⟩) (fun e => HNE.out.1 e.symm) _, HL3.out.s.far (p := ⟨BA, 0, none⟩) (fun e => HNE.out.2 e.symm) _⟩, Lib.hid (HJ.out _ W3 _ HJ3.out ((Chg.refl [BA] W3).set (.inl (by simp)) _)), Lib.hid ⟨?_, ?_, ?_⟩⟩
            · rw [HT.out.1, HD.out, HST.out, List.append_assoc]
              rfl
            · have h1 := HT.out.2.1
              have h2 := HN.out.1
              omega
            · have h1 := HT.out.2.2
              have h2 := HN.out.1
              rw [List.length_append, List.length_singleton]
              omega
          case measure =>
            have h2 := HN.out.1
            have e1 : posOf BA wr = p := by
              unfold posOf
              rw [show wr.cell? ⟨BA, 0, none⟩ = some (.int .i64 p) from HL.out.a.cell 0]
              simp [intOf]
            have e2 : posOf BA (W3.setCell ⟨BA, 0, none⟩ (.int .i64 (x2 : Nat))) = x2 := by
              unfold posOf
              rw [(HL3.out.a.set 0 (.int .i64 (x2 : Nat))).cell 0]
              simp [intOf]
            rw [e1, e2]
            omega
        · gi_wp2
          refine bodyPost_ret (results_none rfl _ _ _) rfl ⟨⟨_, rfl⟩, .inr ⟨_, ?_, hJx3⟩⟩
          rw [HT.out.1, HD.out, HST.out]
          exact ⟨linesF f' (s.drop x2) x2, by rw [List.append_assoc]; rfl⟩
    · have hpe : p = s.length := by omega
      subst hpe
      go_wp2_with fail
      go_end0
      refine ⟨⟨_, rfl⟩, .inl ⟨_, ?_, HP.out⟩⟩
      have h1 := HT.out.1
      have h2 : linesF f (s.drop s.length) s.length = [] := by
        cases f <;> simp [linesF]
      rw [h1, h2, List.append_nil]

/-- A line, and the place behind it, of a text of at most 2147483648 bytes. -/
abbrev Ln := { x : List UInt8 × Nat // x.1.length ≤ 2147483648 ∧ x.2 ≤ 2147483648 }
theorem lines_stops (s : List UInt8) (hs : s.length ≤ 2147483648) (BA BT BS : Nat) (hne : BA ≠ BT ∧ BA ≠ BS) (w : World) (hL : LSt w BA BT BS s 0) :
    SeqStopsC Fence.wide 2 Tryz.prog 202 #[.pointer (some ⟨BA, 0, none⟩), .pointer (some ⟨BT, 0, none⟩), .pointer (some ⟨BS, 0, none⟩)] (fun x : Ln => #[.string ⟨x.1.1.toArray⟩, .int .i64 (x.1.2 : Nat)]) (KpL BA BT BS) BA (fun xs => xs.map (·.1) = linesF s.length s 0) (fun pre => ∃ r, pre.map (·.1) ++ r = linesF s.length s 0) s.length w := fun l J Jx W hW hJ hJx hY h0 => by
  have hL2 : LSt W BA BT BS s 0 := ⟨hL.a.below hW hL.a.lt, hL.t.below hW hL.t.lt, hL.s.below hW hL.s.lt⟩
  refine (lines1_in s (by omega) BA BT BS l hne (fun pre W => ∃ pre' : List Ln, pre'.map (·.1) = pre ∧ J pre' W) (fun pre W => ∃ pre' : List Ln, pre'.map (·.1) = pre ∧ Jx pre' W) ?_ ?_ W hL2 ⟨[], rfl, h0⟩).mono ?_
  · rintro pre A A' ⟨pre', rfl, hj⟩ hc
    exact ⟨pre', rfl, hJ _ A A' hj hc⟩
  · rintro pre x W1 hx1 hx2 ⟨pre', rfl, hj⟩ hlen
    have h := hY pre' ⟨x, by omega, by omega⟩ W1 hj (by simpa using hlen)
    obtain ⟨fn, tmps, assign, body, hy, hR⟩ := h
    refine ⟨fn, tmps, assign, body, hy, hR.mono ?_⟩
    rintro e W' (⟨he, hj', hk⟩ | ⟨he, hj'⟩)
    · exact .inl ⟨he, ⟨_, by simp, hj'⟩, hk⟩
    · exact .inr ⟨he, ⟨_, by simp, hj'⟩⟩
  · rintro e W' ⟨he, ⟨xs, rfl, pre', hm, hj⟩ | ⟨pre, ⟨r, hr⟩, pre', rfl, hj⟩⟩
    · exact ⟨he, .inl ⟨pre', hm, hj⟩⟩
    · exact ⟨he, .inr ⟨pre', ⟨r, hr⟩, hj⟩⟩

end Go.Proofs.YtmbibhphpjmboaaGreatDoor
