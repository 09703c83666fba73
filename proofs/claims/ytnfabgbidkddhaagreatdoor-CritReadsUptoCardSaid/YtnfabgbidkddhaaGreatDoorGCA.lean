/-
  Plain facts on bytes and lists, with no program in sight: letters made small, and what is kept by it.
  Small laws over any program, for the walks of this seat: an append of what a literal has just laid.
  The walk of text.Atom: whether a text is an atom; the world is as it was.
  The walk of text.Fold: letters A to Z made small; nothing that was there turns.
  The walks of flag.Right, flag.Key, flag.Flag.
-/
import Derived.Below
import Derived.Laws.BytesArg
import Derived.Laws.Strings
import Derived.WalkKit
import Derived.WalkSpells
import Derived.WalkLawsBesides
import Derived.Lib.Hide
import Derived.Test.YtnfabgbidkddhaaGreatDoorShelf
import Derived.Deep.QuietTactic
import Derived.BigQuiet
import Derived.Test.YtnfabgbidkddhaaGreatDoorProg
namespace Go.Proofs.YtnfabgbidkddhaaGreatDoor
open Go.RowKit

/-- A letter A to Z made small. -/
def lowB (c : UInt8) : UInt8 := if 65 ≤ c ∧ c ≤ 90 then c + 32 else c
def lowL (l : List UInt8) : List UInt8 := l.map lowB
def lowS (s : ByteArray) : ByteArray := ⟨(lowL s.data.toList).toArray⟩
/-- Its number, as the walk reckons it. -/
def lowN (c : UInt8) : Int := (lowB c).toNat

theorem lowN_big (c : UInt8) (h1 : 65 ≤ (c.toNat : Int)) (h2 : (c.toNat : Int) ≤ 90) : lowN c = (c.toNat : Int) + 32 := by
  unfold lowN lowB
  have a : 65 ≤ c := by rw [UInt8.le_iff_toNat_le]; show 65 ≤ c.toNat; omega
  have b : c ≤ 90 := by rw [UInt8.le_iff_toNat_le]; show c.toNat ≤ 90; omega
  rw [if_pos ⟨a, b⟩, UInt8.toNat_add]
  show ((c.toNat + 32) % 256 : Nat) = (c.toNat : Int) + 32
  omega
theorem lowN_other (c : UInt8) (h : ¬ (65 ≤ (c.toNat : Int) ∧ (c.toNat : Int) ≤ 90)) : lowN c = (c.toNat : Int) := by
  unfold lowN lowB
  rw [if_neg]
  rintro ⟨a, b⟩
  rw [UInt8.le_iff_toNat_le] at a b
  exact h ⟨by exact_mod_cast a, by exact_mod_cast b⟩

def lowNs (l : List UInt8) : List Int := l.map lowN
theorem lowNs_length (l : List UInt8) : (lowNs l).length = l.length := by simp [lowNs]

theorem take_snocB (s : ByteArray) (k : Nat) (h : k < s.size) : s.data.toList.take (k + 1) = s.data.toList.take k ++ [s[k]] := by
  rw [List.take_succ_eq_append_getElem (by simpa using h)]; rfl
theorem take_allB (s : ByteArray) (k : Nat) (h : s.size ≤ k) : s.data.toList.take k = s.data.toList := List.take_of_length_le (by simpa using h)
theorem lowNs_snoc (s : ByteArray) (k : Nat) (h : k < s.size) (x : Int) (hx : lowN s[k] = x) :
    (lowNs (s.data.toList.take k)).map (Value.int .u8) ++ [Value.int .u8 x] = (lowNs (s.data.toList.take (k + 1))).map (Value.int .u8) := by
  rw [take_snocB s k h]
  simp [lowNs, hx]
theorem strOf_lowNs (s : ByteArray) : strOfNums (lowNs s.data.toList) = lowS s := by
  unfold strOfNums lowS lowL lowNs
  rw [List.map_map]
  congr 2
  refine List.map_congr_left fun c _ => ?_
  simp [lowN]

theorem toList_beqB (a b : ByteArray) : (a.toList == b.toList) = (a.data.toList == b.data.toList) := by rw [ByteArray.toList_eq, ByteArray.toList_eq]
theorem lenB (s : ByteArray) : s.data.toList.length = s.size := by simp
theorem lowS_size (s : ByteArray) : (lowS s).size = s.size := by
  unfold lowS lowL
  show ((s.data.toList.map lowB).toArray).size = s.size
  simp

theorem of_dataL (t : ByteArray) (l : List UInt8) (h : t.data.toList = l) : t = ⟨l.toArray⟩ := by
  subst h
  rfl
theorem ne_toListB (t : ByteArray) (l : List UInt8) (h : t ≠ ⟨l.toArray⟩) : (t.toList == l) = false := by
  rw [ByteArray.toList_eq, beq_eq_false_iff_ne]
  exact fun e => h (of_dataL t l e)

end Go.Proofs.YtnfabgbidkddhaaGreatDoor

namespace Go.Proofs.YtnfabgbidkddhaaGreatDoor
open Go.RowKit

theorem ret_bool {a b : Bool} (h : a = b) : Ending.returned (.bool a) = .returned (.bool b) := by rw [h]
theorem ret_str {a b : ByteArray} (h : a = b) : Ending.returned (.string a) = .returned (.string b) := by rw [h]
theorem ret_int {k : IntKind} {a b : Int} (h : a = b) : Ending.returned (.int k a) = .returned (.int k b) := by rw [h]

theorem Addr.add_zero_off (g j : Nat) : (⟨g, 0, none⟩ : Addr).add j = ⟨g, j, none⟩ := by
  unfold Addr.add
  split <;> simp_all

/-- 'append(s, x)' where x's cells have just been laid in a block of their own, s a row of the call's own. -/
theorem wpList_append_new {P : Program} {W : World} {cs : Array Value} {e' : TypeId} {ops : Array Oper} {rest : List Oper} {o : Oper} {a : Act} {Q : Exit → Act → World → Prop}
    (hgd : o.guard = none) (s x : Operand) (t : TypeId)
    (ho : o.op = .call { callee := .builtin .append, args := #[s, x], argTypes := #[t, t] })
    {base : Nat} {e : TypeId} {i : TypeInfo} {z : Value} {size bytes : Nat} (ht : P.underlying t = some (.slice e)) (hi : P.info? e = some i) (hz : i.zero = some z)
    (hsize : i.size = size) (hby : i.bytes = bytes) (hzs : z.cells.size = size) (hsz : 0 < size)
    {v : Value} {n : Nat} {xs : List Value} (hown : W.ownsRow base e size v n xs) (hs : a.eval s = v)
    (m c : Nat) (hx : a.eval x = .slice (some ⟨W.heap.size, 0, none⟩) m c) (hl : cs.toList.length = m * size) (h1 : ∀ u ∈ cs.toList, u.oneCell' = true)
    (h63 : n + m ≤ maxLen) (hbytes : (n + m) * bytes ≤ 140737488355328) (hbase : base ≤ W.heap.size)
    (h : ∀ v' w', w'.ownsRow base e size v' (n + m) (xs ++ cs.toList) → W.grownBy w' v.ownBlock → (v' = .slice none 0 0 ↔ v = .slice none 0 0 ∧ m = 0) → wpList P ops Q rest (a.put o.dst v') w') :
    wpList P ops Q (o :: rest) a (W.alloc (.cells cs e')) := by
  refine wpList_append_own _ hgd s x t ho base e i z size bytes ht hi hz hsize hby hzs hsz v n xs hs (hown.alloc _) ⟨W.heap.size, 0, none⟩ m c cs.toList hx hl ?_ h1 h63 hbytes (by simp; omega) ?_
  · intro j u hj
    rw [Addr.add_zero_off, World.cell?_alloc_at _ _ _ _ rfl]
    simpa using hj
  · intro v' w' h2 h3 h4
    refine h v' w' h2 ?_ h4
    refine ⟨h3.os, h3.tape, h3.output, Nat.le_trans (by simp) h3.size, fun k hk hne => ?_⟩
    rw [h3.block k (by simp; omega) hne]
    exact Below.heap_alloc _ _ _ hk

/-- The string of a row of bytes of the call's own. -/
theorem run_string_own {P : Program} {w : World} {src e base n : Nat} {v : Value} {xs : List Int} (hs : P.underlying src = some (.slice e)) (he : P.underlying e = some (.int .u8))
    (h : w.ownsRow base e 1 v n (xs.map (Value.int .u8))) (dst : TypeId) (hd : P.underlying dst = some .string) :
    (convert src dst v).run P w = .ok (.string (strOfNums xs)) w := by
  have hlen : xs.length = n := by have := h.1; simpa using this
  rcases h.2 with ⟨rfl, rfl⟩ | ⟨g, cap, cur, rfl, _, hg, hnc, _, hcs, htake⟩
  · have : xs = [] := List.eq_nil_of_length_eq_zero hlen
    subst this
    exact run_convert_bytes_nil w src e hs he 0 0 dst hd
  · refine run_convert_bytes_arg w src e hs he g 0 n cap xs hlen (fun i hi => ?_) dst hd
    have h2 := h.cellAt i (by omega)
    rw [Nat.zero_add, h2]
    simp [List.getD, List.getElem?_eq_getElem (show i < xs.length by omega)]

end Go.Proofs.YtnfabgbidkddhaaGreatDoor

namespace Go.Proofs.YtnfabgbidkddhaaGreatDoor
open Go.RowKit

def specials : ByteArray := ⟨#[40, 41, 123, 125, 37, 42, 34, 92, 93]⟩
/-- Where among the signs that no atom has. -/
def specIx (c : UInt8) : Int := Lib.indexByte specials.data.toList c
def atomB (c : UInt8) : Bool := decide (33 ≤ (c.toNat : Int)) && decide ((c.toNat : Int) ≤ 126) && decide (specIx c < 0)
def atomL (l : List UInt8) : Bool := l.all atomB && !l.isEmpty

theorem spec_call (c : UInt8) (w : World) : Calls Tryz.prog 90 #[.string specials, .int .u8 (c.toNat : Int)] w fun e w' => e = .returned (.int .i64 (specIx c)) ∧ w = w' := by
  have h := Tryz.strings_IndexByte specials (c.toNat : Int) w
  have e : ((c.toNat : Int).toNat).toUInt8 = c := by simp
  rw [e] at h
  exact h.mono fun _ _ ⟨h1, h2⟩ => ⟨h1, h2.symm⟩

theorem atom_no (s : ByteArray) (k : Nat) (h : k < s.size) (hc : atomB s[k] = false) : atomL s.data.toList = false := by
  unfold atomL
  have : s.data.toList.all atomB = false := by
    rw [List.all_eq_false]
    exact ⟨s[k], by show s.data[k] ∈ _; simp, by simp [hc]⟩
  simp [this]
theorem atom_take (s : ByteArray) (k : Nat) (h : k < s.size) (h0 : (s.data.toList.take k).all atomB = true) (hc : atomB s[k] = true) : (s.data.toList.take (k + 1)).all atomB = true := by
  rw [take_snocB s k h]
  simp only [List.all_append, h0, Bool.true_and]
  simp [hc]

set_option maxRecDepth 100000 in
set_option maxHeartbeats 400000 in
theorem atom_any (s : ByteArray) (w : World) (hs : s.size ≤ 140737488351232) :
    Calls Tryz.prog 165 #[.string s] w fun e w' => e = .returned (.bool (atomL s.data.toList)) ∧ w = w' := by
  obtain ⟨b, hb⟩ : ∃ b, atomL s.data.toList = b := ⟨_, rfl⟩
  rw [hb]
  have HB0 := Lib.hid hb
  clear hb
  go_enter Tryz.func165, Tryz.ntmps165
  go_wp2_with fail
  go_loop [6] (fun i => ∃ k : Nat, k ≤ s.size ∧ i = .int .i64 k ∧ Hid ((s.data.toList.take k).all atomB = true)) (fun i => s.size - (intOf i).toNat)
  case atStart => exact ⟨0, Nat.zero_le _, rfl, rfl⟩
  case round =>
    obtain ⟨k, hk, rfl, hall⟩ := hrel
    by_cases hlt : k < s.size
    · have H := Lib.hid hall
      clear hall
      by_cases h1 : (s[k].toNat : Int) < 33
      · have hn := Lib.hid (HB0.out.symm.trans (atom_no s k hlt (by simp [atomB]; omega)))
        go_wp2_with fail
        go_ret
        exact ⟨ret_bool hn.out.symm, rfl⟩
      · by_cases h2 : 126 < (s[k].toNat : Int)
        · have hn := Lib.hid (HB0.out.symm.trans (atom_no s k hlt (by simp [atomB]; omega)))
          go_wp2_with fail
          go_ret
          exact ⟨ret_bool hn.out.symm, rfl⟩
        · have hcall := spec_call s[k]
          have hB : atomB s[k] = decide (specIx s[k] < 0) := by
            unfold atomB
            rw [decide_eq_true (by omega), decide_eq_true (by omega)]
            rfl
          have HB := Lib.hid hB
          clear hB
          generalize specIx s[k] = r at hcall HB
          by_cases h3 : r < 0
          · go_wp2_with (go_at_call 90; refine (hcall _).mono ?_; rintro e w' ⟨rfl, rfl⟩)
            go_round
            case rel => exact ⟨k + 1, by omega, by go_num, atom_take s k hlt H.out (by rw [HB.out]; exact decide_eq_true h3)⟩
            case measure => simp [intOf]; omega
          · have hn := Lib.hid (HB0.out.symm.trans (atom_no s k hlt (by rw [HB.out]; exact decide_eq_false h3)))
            go_wp2_with (go_at_call 90; refine (hcall _).mono ?_; rintro e w' ⟨rfl, rfl⟩)
            go_ret
            exact ⟨ret_bool hn.out.symm, rfl⟩
    · have hk2 : k = s.size := by omega
      subst hk2
      have hfin : b = !s.data.toList.isEmpty := by
        rw [← HB0.out]
        unfold atomL
        rw [take_allB s _ (Nat.le_refl _)] at hall
        rw [hall.out]
        rfl
      have H := Lib.hid hfin
      clear hfin hall
      go_wp2_with fail
      go_ret
      exact ⟨ret_bool (by rw [H.out, ← ByteArray.toList_eq]), rfl⟩

end Go.Proofs.YtnfabgbidkddhaaGreatDoor

namespace Go.Proofs.YtnfabgbidkddhaaGreatDoor
open Go.RowKit

theorem Try.info5 : (Tryz.prog.info? 5).map (fun i => (i.zero, i.size, i.bytes)) = some (some (.int .u8 0), 1, 1) := by kernel_rfl

set_option maxRecDepth 100000 in
set_option maxHeartbeats 400000 in
theorem fold_any (s : ByteArray) (w : World) (hs : s.size ≤ 140737488351232) :
    Calls Tryz.prog 40 #[.string s] w fun e w' => e = .returned (.string (lowS s)) ∧ Below w.heap.size w w' := by
  obtain ⟨i0, hi, hz0, hz1, hz2⟩ := info_parts Try.info5
  go_enter Tryz.func40, Tryz.ntmps40
  go_wp2_with (at_make; refine wpList_make_own _ rfl _ _ 46 rfl w.heap.size 5 i0 (.int .u8 0) 1 Tryz.underlying46 hi hz0 hz1 _ _ _ s.size rfl rfl rfl ?c1 ?c2 ?c3 ?_)
  case c1 => rw [hz2]; omega
  case c2 => unfold maxLen; omega
  case c3 => exact Nat.le_refl _
  intro w1 hown0 hg0
  go_wp2
  go_loopw [3, 11] (fun b i wr => ∃ k : Nat, k ≤ s.size ∧ i = .int .i64 k ∧ wr.ownsRow w.heap.size 5 1 b k ((lowNs (s.data.toList.take k)).map (Value.int .u8)) ∧ w.heap.size ≤ wr.heap.size ∧ Below w.heap.size w wr) (fun _ i _ => s.size - (intOf i).toNat)
  case atStart => exact ⟨0, Nat.zero_le _, rfl, by simpa [lowNs] using hown0, hg0.size, (Below.refl _ _).grown hg0 (Nat.le_refl _) (fun _ h => by cases h)⟩
  case round =>
    obtain ⟨k, hk, rfl, hown, hsz, hb⟩ := hrel
    by_cases hlt : k < s.size
    · go_wp2_with (at_builtin; refine wpList_append_new rfl _ _ 46 rfl Tryz.underlying46 hi hz0 hz1 hz2 rfl (by decide) hown rfl 1 1 rfl rfl ?_ ?_ ?_ ?_ ?_)
      all_goals first | rfl | omega | (unfold maxLen; omega) | skip
      all_goals
        intro v2 w2 hown2 hg2 _
        have hx := lowNs_snoc s k hlt _ (by first | exact lowN_big _ ‹_› ‹_› | exact lowN_other _ (by omega))
        have hown3 : w2.ownsRow w.heap.size 5 1 v2 (k + 1) ((lowNs (s.data.toList.take (k + 1))).map (Value.int .u8)) := by rw [← hx]; exact hown2
        have hsz2 : w.heap.size ≤ w2.heap.size := Nat.le_trans hsz hg2.size
        have hb2 : Below w.heap.size w w2 := hb.grown hg2 hsz (fun j hj => (hown.lt j hj).1)
        clear hx hown2
        go_wp2
        refine ⟨?_, by simp [intOf]; omega⟩
        first | exact ⟨k + 1, by omega, by go_num, hown3, hsz2, hb2⟩ | ((repeat apply Exists.intro); exact ⟨⟨k + 1, by omega, by go_num, hown3, hsz2, hb2⟩, rfl⟩)
    · have hk2 : k = s.size := by omega
      subst hk2
      rw [take_allB s _ (Nat.le_refl _)] at hown
      have hconv := run_string_own (P := Tryz.prog) Tryz.underlying46 Tryz.underlying5 hown 9 Tryz.underlying9
      rw [strOf_lowNs] at hconv
      go_wp2
      go_ret
      exact ⟨rfl, hb⟩

end Go.Proofs.YtnfabgbidkddhaaGreatDoor

namespace Go.Proofs.YtnfabgbidkddhaaGreatDoor
open Go.RowKit

def rightL (l : List UInt8) : Bool := atomL l && decide (l.length ≤ 64) && (lowL l == l)

set_option maxRecDepth 100000 in
set_option maxHeartbeats 400000 in
theorem right_any (s : ByteArray) (w : World) (hs : s.size ≤ 140737488351232) :
    Calls Tryz.prog 137 #[.string s] w fun e w' => e = .returned (.bool (rightL s.data.toList)) ∧ Below w.heap.size w w' := by
  obtain ⟨b, hb⟩ : ∃ b, rightL s.data.toList = b := ⟨_, rfl⟩
  rw [hb]
  have HB0 := Lib.hid hb
  clear hb
  obtain ⟨a, ha⟩ : ∃ a, atomL s.data.toList = a := ⟨_, rfl⟩
  have hat := atom_any s
  rw [ha] at hat
  have HA := Lib.hid ha
  clear ha
  go_enter Tryz.func137, Tryz.ntmps137
  cases a
  · go_wp2_with (first | (go_at_call 165; refine (hat _ hs).mono ?_; rintro e w' ⟨rfl, rfl⟩) | (go_at_call 40; refine (fold_any _ _ hs).mono ?_; rintro e w' ⟨rfl, hb⟩))
    go_ret
    exact ⟨ret_bool (by rw [← HB0.out, rightL, HA.out]; rfl), Below.refl _ _⟩
  · go_wp2_with (first | (go_at_call 165; refine (hat _ hs).mono ?_; rintro e w' ⟨rfl, rfl⟩) | (go_at_call 40; refine (fold_any _ _ hs).mono ?_; rintro e w' ⟨rfl, hb⟩))
    · go_ret
      refine ⟨ret_bool ?_, hb⟩
      rw [← HB0.out, rightL, HA.out, toList_beqB, decide_eq_true (by rw [lenB]; omega)]
      rfl
    · go_ret
      refine ⟨ret_bool ?_, Below.refl _ _⟩
      rw [← HB0.out, rightL, decide_eq_false (by rw [lenB]; omega)]
      simp

/-- The five of the system, as they read when made small. -/
def sysKeys : List (List UInt8) := [[92, 97, 110, 115, 119, 101, 114, 101, 100], [92, 102, 108, 97, 103, 103, 101, 100], [92, 100, 101, 108, 101, 116, 101, 100], [92, 115, 101, 101, 110], [92, 100, 114, 97, 102, 116]]
/-- The keyword of a text that has been made small; none: false. -/
def keyOf (l : List UInt8) : List UInt8 × Bool := if l ∈ sysKeys then (36 :: l.tail, true) else if rightL l then (l, true) else ([], false)

set_option maxRecDepth 100000 in
set_option maxHeartbeats 1000000 in
theorem key_any (s : ByteArray) (w : World) (hs : s.size ≤ 140737488351232) :
    Calls Tryz.prog 106 #[.string s] w fun e w' => e = .returned (.tuple #[.string ⟨(keyOf (lowL s.data.toList)).1.toArray⟩, .bool (keyOf (lowL s.data.toList)).2]) ∧ Below w.heap.size w w' := by
  obtain ⟨t, ht⟩ : ∃ t, lowS s = t := ⟨_, rfl⟩
  have hl : lowL s.data.toList = t.data.toList := by rw [← ht]; rfl
  have htz : t.size ≤ 140737488351232 := by rw [← ht, lowS_size]; exact hs
  have hf := fun W => fold_any s W hs
  rw [hl]
  rw [ht] at hf
  clear hl ht
  go_enter Tryz.func106, Tryz.ntmps106
  by_cases c0 : t = ⟨#[92, 97, 110, 115, 119, 101, 114, 101, 100]⟩
  · subst c0
    go_wp2_with (first | (go_at_call 40; refine (hf _).mono ?_; rintro e w1 ⟨rfl, hb1⟩) | (go_at_call 137; refine (right_any _ _ htz).mono ?_; rintro e w2 ⟨rfl, hb2⟩))
    go_ret2
    exact ⟨rfl, hb1⟩
  have n0 := ne_toListB t [92, 97, 110, 115, 119, 101, 114, 101, 100] c0
  by_cases c1 : t = ⟨#[92, 102, 108, 97, 103, 103, 101, 100]⟩
  · subst c1
    go_wp2_with (first | (go_at_call 40; refine (hf _).mono ?_; rintro e w1 ⟨rfl, hb1⟩) | (go_at_call 137; refine (right_any _ _ htz).mono ?_; rintro e w2 ⟨rfl, hb2⟩))
    go_ret2
    exact ⟨rfl, hb1⟩
  have n1 := ne_toListB t [92, 102, 108, 97, 103, 103, 101, 100] c1
  by_cases c2 : t = ⟨#[92, 100, 101, 108, 101, 116, 101, 100]⟩
  · subst c2
    go_wp2_with (first | (go_at_call 40; refine (hf _).mono ?_; rintro e w1 ⟨rfl, hb1⟩) | (go_at_call 137; refine (right_any _ _ htz).mono ?_; rintro e w2 ⟨rfl, hb2⟩))
    go_ret2
    exact ⟨rfl, hb1⟩
  have n2 := ne_toListB t [92, 100, 101, 108, 101, 116, 101, 100] c2
  by_cases c3 : t = ⟨#[92, 115, 101, 101, 110]⟩
  · subst c3
    go_wp2_with (first | (go_at_call 40; refine (hf _).mono ?_; rintro e w1 ⟨rfl, hb1⟩) | (go_at_call 137; refine (right_any _ _ htz).mono ?_; rintro e w2 ⟨rfl, hb2⟩))
    go_ret2
    exact ⟨rfl, hb1⟩
  have n3 := ne_toListB t [92, 115, 101, 101, 110] c3
  by_cases c4 : t = ⟨#[92, 100, 114, 97, 102, 116]⟩
  · subst c4
    go_wp2_with (first | (go_at_call 40; refine (hf _).mono ?_; rintro e w1 ⟨rfl, hb1⟩) | (go_at_call 137; refine (right_any _ _ htz).mono ?_; rintro e w2 ⟨rfl, hb2⟩))
    go_ret2
    exact ⟨rfl, hb1⟩
  have n4 := ne_toListB t [92, 100, 114, 97, 102, 116] c4
  have hns : t.data.toList ∉ sysKeys := by
    intro h
    simp only [sysKeys, List.mem_cons, List.not_mem_nil, or_false] at h
    rcases h with h | h | h | h | h
    · exact c0 (of_dataL t _ h)
    · exact c1 (of_dataL t _ h)
    · exact c2 (of_dataL t _ h)
    · exact c3 (of_dataL t _ h)
    · exact c4 (of_dataL t _ h)
  clear c0 c1 c2 c3 c4
  obtain ⟨q, hq⟩ : ∃ q, keyOf t.data.toList = q := ⟨_, rfl⟩
  rw [hq]
  rw [keyOf, if_neg hns] at hq
  have HQ := Lib.hid hq
  clear hq hns
  cases hr : rightL t.data.toList
  · rw [hr] at HQ
    have hR := fun W => right_any t W htz
    rw [hr] at hR
    clear hr
    go_wp2_with (first | (go_at_call 40; refine (hf _).mono ?_; rintro e w1 ⟨rfl, hb1⟩) | (go_at_call 137; refine (hR _).mono ?_; rintro e w2 ⟨rfl, hb2⟩))
    go_ret2
    refine ⟨?_, hb1.trans (hb2.mono hb1.size)⟩
    rw [← HQ.out]
    rfl
  · rw [hr] at HQ
    have hR := fun W => right_any t W htz
    rw [hr] at hR
    clear hr
    go_wp2_with (first | (go_at_call 40; refine (hf _).mono ?_; rintro e w1 ⟨rfl, hb1⟩) | (go_at_call 137; refine (hR _).mono ?_; rintro e w2 ⟨rfl, hb2⟩))
    go_ret2
    refine ⟨?_, hb1.trans (hb2.mono hb1.size)⟩
    rw [← HQ.out]
    rfl

/-- A keyword's flag. -/
def flagOf (s : ByteArray) : ByteArray :=
  if s = ⟨#[36, 97, 110, 115, 119, 101, 114, 101, 100]⟩ then ⟨#[92, 65, 110, 115, 119, 101, 114, 101, 100]⟩
  else if s = ⟨#[36, 102, 108, 97, 103, 103, 101, 100]⟩ then ⟨#[92, 70, 108, 97, 103, 103, 101, 100]⟩
  else if s = ⟨#[36, 100, 101, 108, 101, 116, 101, 100]⟩ then ⟨#[92, 68, 101, 108, 101, 116, 101, 100]⟩
  else if s = ⟨#[36, 115, 101, 101, 110]⟩ then ⟨#[92, 83, 101, 101, 110]⟩
  else if s = ⟨#[36, 100, 114, 97, 102, 116]⟩ then ⟨#[92, 68, 114, 97, 102, 116]⟩
  else s

end Go.Proofs.YtnfabgbidkddhaaGreatDoor
