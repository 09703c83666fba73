/-
  Plain facts on bytes and lists, with no program in sight: letters made small, and what is kept by it.
  Rows of bytes in memory; a string turned into bytes; the walk of pillarboxref1.Fold.
  The walk of text.Atom: whether a text is an atom; the world is as it was.
  The walk of text.Fold: letters A to Z made small; nothing that was there turns.
  The walk of flag.Right alone (for seats without flag.Key).
  Slices of strings of the call's own: cloned, sorted, made compact.
  The walk of flag.Keys, and of the laws' small functions over lists of texts.
  Headers in plain words: lines, gathered lines, fields, the first of a name. No program in sight.
  strings.Cut at a separator of one byte: no variable of the library is read.
  strings.Cut at a colon and strings.Trim of blanks and tabs, at this program.
-/
import Derived.Test.YtgkfknbhkonfdaaGreatDoorGA
import Derived.Below
import Derived.Laws.BytesArg
import Derived.Laws.Strings
import Derived.Test.YtgkfknbhkonfdaaGreatDoorProg
import Derived.Lib.ConvBytes
import Derived.Test.YtgkfknbhkonfdaaGreatDoorShelf
import Derived.Deep.QuietTactic
import Derived.BigQuiet
import Derived.Sort.OwnSorted
import Derived.Lib.RowBridge
import Derived.Lib.SlTrimSet
import Derived.Lib.IndexMore
import Derived.Shelf.Strings.Cut
import Derived.Lib.IndexBytes
import Derived.Shelf.Strings.SlTrimAscii
import Derived.Shelf.Lay
import Derived.Ground.NamesProg
namespace Go.Proofs.YtgkfknbhkonfdaaGreatDoor
open Go.RowKit

/-- A letter A to Z made small. -/
def lowB (c : UInt8) : UInt8 := if 65 ≤ c ∧ c ≤ 90 then c + 32 else c
def lowL (l : List UInt8) : List UInt8 := l.map lowB
def lowS (s : ByteArray) : ByteArray := ⟨(lowL s.data.toList).toArray⟩
/-- Its number, as the walk reckons it. -/
def lowN (c : UInt8) : Int := (lowB c).toNat

theorem lowN_big (c : UInt8) (h1 : 65 ≤ (c.toNat : Int)) (h2 : (c.toNat : Int) ≤ 90) : lowN c = (c.toNat : Int) + 32 := by
  unfold lowN lowB
  have a : 65 ≤ c := by rw [UInt8.le_iff_toNat_le]; show 65 ≤ c.toNat; omega
  have b : c ≤ 90 := by rw [UInt8.le_iff_toNat_le]; show c.toNat ≤ 90; omega
  rw [if_pos ⟨a, b⟩, UInt8.toNat_add]
  show ((c.toNat + 32) % 256 : Nat) = (c.toNat : Int) + 32
  omega
theorem lowN_other (c : UInt8) (h : ¬ (65 ≤ (c.toNat : Int) ∧ (c.toNat : Int) ≤ 90)) : lowN c = (c.toNat : Int) := by
  unfold lowN lowB
  rw [if_neg]
  rintro ⟨a, b⟩
  rw [UInt8.le_iff_toNat_le] at a b
  exact h ⟨by exact_mod_cast a, by exact_mod_cast b⟩

def lowNs (l : List UInt8) : List Int := l.map lowN
theorem lowNs_length (l : List UInt8) : (lowNs l).length = l.length := by simp [lowNs]

theorem take_snocB (s : ByteArray) (k : Nat) (h : k < s.size) : s.data.toList.take (k + 1) = s.data.toList.take k ++ [s[k]] := by
  rw [List.take_succ_eq_append_getElem (by simpa using h)]; rfl
theorem take_allB (s : ByteArray) (k : Nat) (h : s.size ≤ k) : s.data.toList.take k = s.data.toList := List.take_of_length_le (by simpa using h)
theorem lowNs_snoc (s : ByteArray) (k : Nat) (h : k < s.size) (x : Int) (hx : lowN s[k] = x) :
    (lowNs (s.data.toList.take k)).map (Value.int .u8) ++ [Value.int .u8 x] = (lowNs (s.data.toList.take (k + 1))).map (Value.int .u8) := by
  rw [take_snocB s k h]
  simp [lowNs, hx]
theorem strOf_lowNs (s : ByteArray) : strOfNums (lowNs s.data.toList) = lowS s := by
  unfold strOfNums lowS lowL lowNs
  rw [List.map_map]
  congr 2
  refine List.map_congr_left fun c _ => ?_
  simp [lowN]

theorem toList_beqB (a b : ByteArray) : (a.toList == b.toList) = (a.data.toList == b.data.toList) := by rw [ByteArray.toList_eq, ByteArray.toList_eq]
theorem lenB (s : ByteArray) : s.data.toList.length = s.size := by simp
theorem lowS_size (s : ByteArray) : (lowS s).size = s.size := by
  unfold lowS lowL
  show ((s.data.toList.map lowB).toArray).size = s.size
  simp

theorem of_dataL (t : ByteArray) (l : List UInt8) (h : t.data.toList = l) : t = ⟨l.toArray⟩ := by
  subst h
  rfl
theorem ne_toListB (t : ByteArray) (l : List UInt8) (h : t ≠ ⟨l.toArray⟩) : (t.toList == l) = false := by
  rw [ByteArray.toList_eq, beq_eq_false_iff_ne]
  exact fun e => h (of_dataL t l e)

end Go.Proofs.YtgkfknbhkonfdaaGreatDoor

namespace Go.Proofs.YtgkfknbhkonfdaaGreatDoor
open Go.RowKit

theorem bthen {a w w' : World} (hb : Below a.heap.size a w) (h : Below w.heap.size w w') : Below a.heap.size a w' := hb.trans (h.mono hb.size)

/-- Block g begins with the bytes l, none of them frozen. -/
def RowB (w : World) (g : Nat) (l : List UInt8) : Prop := ∀ j (hj : j < l.length), w.cell? ⟨g, j, none⟩ = some (.int .u8 (l[j].toNat : Int)) ∧ w.frozen? ⟨g, j, none⟩ = false

theorem RowB.set {w : World} {g : Nat} {l : List UInt8} (h : RowB w g l) (k : Nat) (hk : k < l.length) (c : UInt8) : RowB (w.setCell ⟨g, k, none⟩ (.int .u8 (c.toNat : Int))) g (l.set k c) := by
  intro j hj
  rw [List.length_set] at hj
  refine ⟨?_, by rw [World.frozen?_setCell]; exact (h j hj).2⟩
  by_cases e : k = j
  · subst e
    rw [World.cell?_setCell_same _ _ _ (h k hk).1]
    simp
  · rw [World.cell?_setCell_other _ _ _ _ (by simp), (h j hj).1]
    simp [e]
theorem RowB.below {w w' : World} {g : Nat} {l : List UInt8} (h : RowB w g l) (hb : Below w.heap.size w w') (hg : g < w.heap.size) : RowB w' g l := by
  intro j hj
  rw [hb.cell (p := ⟨g, j, none⟩) hg, hb.frozen (p := ⟨g, j, none⟩) hg]
  exact h j hj

theorem rowB_conv (w : World) (e : TypeId) (s : ByteArray) : RowB (Lib.bytesWorld w e s) w.heap.size s.data.toList ∧ Below w.heap.size w (Lib.bytesWorld w e s) := by
  constructor
  · intro j hj
    have hj' : j < s.size := by simpa using hj
    constructor
    · rw [Lib.bytesWorld_cell w e s j hj']
      simp [List.getD, List.getElem?_eq_getElem hj]
    · simp only [World.frozen?, Lib.bytesWorld_at_new]
      have h1 : (Lib.bytesCells w e s).size = s.data.size + (grownCap w s.size 0 e - s.size) := by
        unfold Lib.bytesCells
        rw [Array.size_append, Array.size_map, Array.size_replicate]
      have h2 : s.data.size = s.size := rfl
      rw [decide_eq_false (by omega)]
      rfl
  · refine ⟨?_, ?_, ?_, by rw [Lib.bytesWorld_size]; omega, fun k hk => Lib.bytesWorld_at_old w e s k hk⟩
    all_goals simp [Lib.bytesWorld, World.freeze, World.alloc, World.drew, -World.alloc_eq, -World.drew_eq]

/-- '[]byte(s)' in a walk: a new block with the bytes; nothing that was there turns. -/
theorem wpList_bytes_of {P : Program} {w : World} {ops : Array Oper} {rest : List Oper} {o : Oper} {a : Act} {Q : Exit → Act → World → Prop}
    (hgd : o.guard = none) (src dst e : TypeId) (x : Operand) (ho : o.op = .convert src dst x) (hs : P.underlying src = some .string) (hd : P.underlying dst = some (.slice e)) (he : P.underlying e = some (.int .u8))
    (s : ByteArray) (hx : a.eval x = .string s)
    (h : ∀ cap w', s.size ≤ cap → cap ≤ maxLen ∨ maxLen < s.size → RowB w' w.heap.size s.data.toList → Below w.heap.size w w' → w.heap.size < w'.heap.size → wpList P ops Q rest (a.put o.dst (.slice (some ⟨w.heap.size, 0, none⟩) s.size cap)) w') :
    wpList P ops Q (o :: rest) a w := by
  refine wpList_plain hgd fun K hK => ?_
  have hr := Lib.run_convert_string_bytes (P := P) w src dst e s hs hd he
  obtain ⟨h1, h2⟩ := rowB_conv w e s
  unfold Oper.wp
  simp [execOp, ho, hx, hr, Result.andThen]
  refine hK _ _ (h _ _ (grownCap_ge _ _ _ _) ?_ h1 h2 (by rw [Lib.bytesWorld_size]; omega))
  by_cases hm : s.size ≤ maxLen
  · exact .inl (grownCap_le_maxLen w s.size 0 e hm)
  · exact .inr (by omega)

/-- The string of a row of bytes. -/
theorem run_string_row {P : Program} {w : World} {src e g cap : Nat} {l : List UInt8} (hs : P.underlying src = some (.slice e)) (he : P.underlying e = some (.int .u8))
    (h : RowB w g l) (n : Nat) (hn : l.length = n) (dst : TypeId) (hd : P.underlying dst = some .string) :
    (convert src dst (.slice (some ⟨g, 0, none⟩) n cap)).run P w = .ok (.string ⟨l.toArray⟩) w := by
  subst hn
  refine run_convert_bytes_back w src dst e ⟨g, 0, none⟩ cap l hs he hd fun j hj => ?_
  rw [Addr.add_zero_off]
  exact (h j hj).1

/-- The bytes after k rounds: the first k made small. -/
def lowUpTo (l : List UInt8) (k : Nat) : List UInt8 := (l.take k).map lowB ++ l.drop k
theorem lowUpTo_length (l : List UInt8) (k : Nat) : (lowUpTo l k).length = l.length := by
  simp [lowUpTo]
  omega
theorem lowUpTo_zero (l : List UInt8) : lowUpTo l 0 = l := by simp [lowUpTo]
theorem lowUpTo_all (l : List UInt8) : lowUpTo l l.length = lowL l := by simp [lowUpTo, lowL]
theorem lowUpTo_at (l : List UInt8) (k : Nat) (h : k < l.length) (h2 : k < (lowUpTo l k).length) : (lowUpTo l k)[k] = l[k] := by
  simp only [lowUpTo]
  rw [List.getElem_append_right (by simp; omega)]
  simp
  congr 1
  omega
theorem lowUpTo_set (l : List UInt8) (k : Nat) (h : k < l.length) : (lowUpTo l k).set k (lowB l[k]) = lowUpTo l (k + 1) := by
  unfold lowUpTo
  have e1 : l.drop k = l[k] :: l.drop (k + 1) := by rw [List.drop_eq_getElem_cons h]
  have e2 : l.take (k + 1) = l.take k ++ [l[k]] := by rw [List.take_succ_eq_append_getElem h]
  rw [e2, List.set_append_right _ _ (by simp; omega)]
  have : k - ((l.take k).map lowB).length = 0 := by simp; omega
  rw [this, e1, List.map_append, List.append_assoc]
  rfl
theorem lowUpTo_stay (l : List UInt8) (k : Nat) (h : k < l.length) (hc : lowB l[k] = l[k]) : lowUpTo l k = lowUpTo l (k + 1) := by
  rw [← lowUpTo_set l k h, hc]
  have h2 : k < (lowUpTo l k).length := by rw [lowUpTo_length]; exact h
  have := lowUpTo_at l k h h2
  rw [← this, List.set_getElem_self]

end Go.Proofs.YtgkfknbhkonfdaaGreatDoor

namespace Go.Proofs.YtgkfknbhkonfdaaGreatDoor
open Go.RowKit

def specials : ByteArray := ⟨#[40, 41, 123, 125, 37, 42, 34, 92, 93]⟩
/-- Where among the signs that no atom has. -/
def specIx (c : UInt8) : Int := Lib.indexByte specials.data.toList c
def atomB (c : UInt8) : Bool := decide (33 ≤ (c.toNat : Int)) && decide ((c.toNat : Int) ≤ 126) && decide (specIx c < 0)
def atomL (l : List UInt8) : Bool := l.all atomB && !l.isEmpty

theorem spec_call (c : UInt8) (w : World) : Calls Tryz.prog 162 #[.string specials, .int .u8 (c.toNat : Int)] w fun e w' => e = .returned (.int .i64 (specIx c)) ∧ w = w' := by
  have h := Tryz.strings_IndexByte specials (c.toNat : Int) w
  have e : ((c.toNat : Int).toNat).toUInt8 = c := by simp
  rw [e] at h
  exact h.mono fun _ _ ⟨h1, h2⟩ => ⟨h1, h2.symm⟩

theorem atom_no (s : ByteArray) (k : Nat) (h : k < s.size) (hc : atomB s[k] = false) : atomL s.data.toList = false := by
  unfold atomL
  have : s.data.toList.all atomB = false := by
    rw [List.all_eq_false]
    exact ⟨s[k], by show s.data[k] ∈ _; simp, by simp [hc]⟩
  simp [this]
theorem atom_take (s : ByteArray) (k : Nat) (h : k < s.size) (h0 : (s.data.toList.take k).all atomB = true) (hc : atomB s[k] = true) : (s.data.toList.take (k + 1)).all atomB = true := by
  rw [take_snocB s k h]
  simp only [List.all_append, h0, Bool.true_and]
  simp [hc]

set_option maxRecDepth 100000 in
set_option maxHeartbeats 400000 in
theorem atom_any (s : ByteArray) (w : World) (hs : s.size ≤ 140737488351232) :
    Calls Tryz.prog 91 #[.string s] w fun e w' => e = .returned (.bool (atomL s.data.toList)) ∧ w = w' := by
  obtain ⟨b, hb⟩ : ∃ b, atomL s.data.toList = b := ⟨_, rfl⟩
  rw [hb]
  have HB0 := Lib.hid hb
  clear hb
  go_enter Tryz.func91, Tryz.ntmps91
  go_wp2_with fail
  go_loop [6] (fun i => ∃ k : Nat, k ≤ s.size ∧ i = .int .i64 k ∧ Hid ((s.data.toList.take k).all atomB = true)) (fun i => s.size - (intOf i).toNat)
  case atStart => exact ⟨0, Nat.zero_le _, rfl, rfl⟩
  case round =>
    obtain ⟨k, hk, rfl, hall⟩ := hrel
    by_cases hlt : k < s.size
    · have H := Lib.hid hall
      clear hall
      by_cases h1 : (s[k].toNat : Int) < 33
      · have hn := Lib.hid (HB0.out.symm.trans (atom_no s k hlt (by simp [atomB]; omega)))
        go_wp2_with fail
        go_ret
        exact ⟨ret_bool hn.out.symm, rfl⟩
      · by_cases h2 : 126 < (s[k].toNat : Int)
        · have hn := Lib.hid (HB0.out.symm.trans (atom_no s k hlt (by simp [atomB]; omega)))
          go_wp2_with fail
          go_ret
          exact ⟨ret_bool hn.out.symm, rfl⟩
        · have hcall := spec_call s[k]
          have hB : atomB s[k] = decide (specIx s[k] < 0) := by
            unfold atomB
            rw [decide_eq_true (by omega), decide_eq_true (by omega)]
            rfl
          have HB := Lib.hid hB
          clear hB
          generalize specIx s[k] = r at hcall HB
          by_cases h3 : r < 0
          · go_wp2_with (go_at_call 162; refine (hcall _).mono ?_; rintro e w' ⟨rfl, rfl⟩)
            go_round
            case rel => exact ⟨k + 1, by omega, by go_num, atom_take s k hlt H.out (by rw [HB.out]; exact decide_eq_true h3)⟩
            case measure => simp [intOf]; omega
          · have hn := Lib.hid (HB0.out.symm.trans (atom_no s k hlt (by rw [HB.out]; exact decide_eq_false h3)))
            go_wp2_with (go_at_call 162; refine (hcall _).mono ?_; rintro e w' ⟨rfl, rfl⟩)
            go_ret
            exact ⟨ret_bool hn.out.symm, rfl⟩
    · have hk2 : k = s.size := by omega
      subst hk2
      have hfin : b = !s.data.toList.isEmpty := by
        rw [← HB0.out]
        unfold atomL
        rw [take_allB s _ (Nat.le_refl _)] at hall
        rw [hall.out]
        rfl
      have H := Lib.hid hfin
      clear hfin hall
      go_wp2_with fail
      go_ret
      exact ⟨ret_bool (by rw [H.out, ← ByteArray.toList_eq]), rfl⟩

end Go.Proofs.YtgkfknbhkonfdaaGreatDoor

namespace Go.Proofs.YtgkfknbhkonfdaaGreatDoor
open Go.RowKit

theorem Try.info5 : (Tryz.prog.info? 5).map (fun i => (i.zero, i.size, i.bytes)) = some (some (.int .u8 0), 1, 1) := by kernel_rfl

set_option maxRecDepth 100000 in
set_option maxHeartbeats 400000 in
theorem fold_any (s : ByteArray) (w : World) (hs : s.size ≤ 140737488351232) :
    Calls Tryz.prog 171 #[.string s] w fun e w' => e = .returned (.string (lowS s)) ∧ Below w.heap.size w w' := by
  obtain ⟨i0, hi, hz0, hz1, hz2⟩ := info_parts Try.info5
  go_enter Tryz.func171, Tryz.ntmps171
  go_wp2_with (at_make; refine wpList_make_own _ rfl _ _ 100 rfl w.heap.size 5 i0 (.int .u8 0) 1 Tryz.underlying100 hi hz0 hz1 _ _ _ s.size rfl rfl rfl ?c1 ?c2 ?c3 ?_)
  case c1 => rw [hz2]; omega
  case c2 => unfold maxLen; omega
  case c3 => exact Nat.le_refl _
  intro w1 hown0 hg0
  go_wp2
  go_loopw [3, 11] (fun b i wr => ∃ k : Nat, k ≤ s.size ∧ i = .int .i64 k ∧ wr.ownsRow w.heap.size 5 1 b k ((lowNs (s.data.toList.take k)).map (Value.int .u8)) ∧ w.heap.size ≤ wr.heap.size ∧ Below w.heap.size w wr) (fun _ i _ => s.size - (intOf i).toNat)
  case atStart => exact ⟨0, Nat.zero_le _, rfl, by simpa [lowNs] using hown0, hg0.size, (Below.refl _ _).grown hg0 (Nat.le_refl _) (fun _ h => by cases h)⟩
  case round =>
    obtain ⟨k, hk, rfl, hown, hsz, hb⟩ := hrel
    by_cases hlt : k < s.size
    · go_wp2_with (at_builtin; refine wpList_append_new rfl _ _ 100 rfl Tryz.underlying100 hi hz0 hz1 hz2 rfl (by decide) hown rfl 1 1 rfl rfl ?_ ?_ ?_ ?_ ?_)
      all_goals first | rfl | omega | (unfold maxLen; omega) | skip
      all_goals
        intro v2 w2 hown2 hg2 _
        have hx := lowNs_snoc s k hlt _ (by first | exact lowN_big _ ‹_› ‹_› | exact lowN_other _ (by omega))
        have hown3 : w2.ownsRow w.heap.size 5 1 v2 (k + 1) ((lowNs (s.data.toList.take (k + 1))).map (Value.int .u8)) := by rw [← hx]; exact hown2
        have hsz2 : w.heap.size ≤ w2.heap.size := Nat.le_trans hsz hg2.size
        have hb2 : Below w.heap.size w w2 := hb.grown hg2 hsz (fun j hj => (hown.lt j hj).1)
        clear hx hown2
        go_wp2
        refine ⟨?_, by simp [intOf]; omega⟩
        first | exact ⟨k + 1, by omega, by go_num, hown3, hsz2, hb2⟩ | ((repeat apply Exists.intro); exact ⟨⟨k + 1, by omega, by go_num, hown3, hsz2, hb2⟩, rfl⟩)
    · have hk2 : k = s.size := by omega
      subst hk2
      rw [take_allB s _ (Nat.le_refl _)] at hown
      have hconv := run_string_own (P := Tryz.prog) Tryz.underlying100 Tryz.underlying5 hown 9 Tryz.underlying9
      rw [strOf_lowNs] at hconv
      go_wp2
      go_ret
      exact ⟨rfl, hb⟩

end Go.Proofs.YtgkfknbhkonfdaaGreatDoor

namespace Go.Proofs.YtgkfknbhkonfdaaGreatDoor
open Go.RowKit

def rightL (l : List UInt8) : Bool := atomL l && decide (l.length ≤ 64) && (lowL l == l)

set_option maxRecDepth 100000 in
set_option maxHeartbeats 400000 in
theorem right_any (s : ByteArray) (w : World) (hs : s.size ≤ 140737488351232) :
    Calls Tryz.prog 121 #[.string s] w fun e w' => e = .returned (.bool (rightL s.data.toList)) ∧ Below w.heap.size w w' := by
  obtain ⟨b, hb⟩ : ∃ b, rightL s.data.toList = b := ⟨_, rfl⟩
  rw [hb]
  have HB0 := Lib.hid hb
  clear hb
  obtain ⟨a, ha⟩ : ∃ a, atomL s.data.toList = a := ⟨_, rfl⟩
  have hat := atom_any s
  rw [ha] at hat
  have HA := Lib.hid ha
  clear ha
  go_enter Tryz.func121, Tryz.ntmps121
  cases a
  · go_wp2_with (first | (go_at_call 91; refine (hat _ hs).mono ?_; rintro e w' ⟨rfl, rfl⟩) | (go_at_call 171; refine (fold_any _ _ hs).mono ?_; rintro e w' ⟨rfl, hb⟩))
    go_ret
    exact ⟨ret_bool (by rw [← HB0.out, rightL, HA.out]; rfl), Below.refl _ _⟩
  · go_wp2_with (first | (go_at_call 91; refine (hat _ hs).mono ?_; rintro e w' ⟨rfl, rfl⟩) | (go_at_call 171; refine (fold_any _ _ hs).mono ?_; rintro e w' ⟨rfl, hb⟩))
    · go_ret
      refine ⟨ret_bool ?_, hb⟩
      rw [← HB0.out, rightL, HA.out, toList_beqB, decide_eq_true (by rw [lenB]; omega)]
      rfl
    · go_ret
      refine ⟨ret_bool ?_, Below.refl _ _⟩
      rw [← HB0.out, rightL, decide_eq_false (by rw [lenB]; omega)]
      simp

end Go.Proofs.YtgkfknbhkonfdaaGreatDoor

namespace Go.Proofs.YtgkfknbhkonfdaaGreatDoor
open Go.RowKit Go.Sort
attribute [local go_sem ↓] Go.wp_at_zero Go.wp_at_succ

theorem Try.infoString : (Tryz.prog.info? 9).map (fun i => (i.zero, i.size, i.bytes)) = some (some (.string ⟨#[]⟩), 1, 16) := by kernel_rfl

section
variable {w w' : World} {e : TypeId} {b off n cap : Nat} {h : Option Nat} {xs : List Value}

theorem grow_chg (w : World) (q : Nat) (d : Array (List UInt8)) (b off : Nat) (os : Array Obj) : Chg [b] w (grow (putRow encStr (Sort.ahead w q) b off d) os) := by
  refine ⟨rfl, rfl, rfl, by simp, fun k hk hne => ?_⟩
  rw [heap_grow_old _ _ (by simpa using hk)]
  have : b ≠ k := fun e => hne (by simp [e])
  simp [putRow, mapBlock, Sort.ahead, Array.getElem?_modify, this]
theorem grow_blk {cur : Array Value} (hB : Blk w b e cur) (q : Nat) (d : Array (List UInt8)) (os : Array Obj) : Blk (grow (putRow encStr (Sort.ahead w q) b off d) os) b e (putCells encStr off d cur) := by
  have hlt := hB.lt
  unfold Blk at hB ⊢
  rw [heap_grow_old _ _ (by simpa using hlt)]
  simp [putRow, mapBlock, Sort.ahead, Array.getElem?_modify, hB]
  rfl
theorem putCells_at (cur : Array Value) (d : Array (List UInt8)) (h : off + d.size ≤ cur.size) : ((putCells encStr off d cur).toList.drop off).take d.size = d.toList.map encStr := by
  apply List.ext_getElem?
  intro k
  rw [List.getElem?_take]
  by_cases hk : k < d.size
  · rw [if_pos hk, List.getElem?_drop, List.getElem?_map]
    simp only [putCells, Array.getElem?_toList, Array.getElem?_mapIdx]
    rw [Array.getElem?_eq_getElem (show off + k < cur.size by omega), Option.map_some, if_pos ⟨by omega, by omega⟩, Nat.add_sub_cancel_left]
    simp [hk]
  · rw [if_neg hk, List.getElem?_eq_none]
    simp
    omega
theorem Sl.putRow (hs : Sl w e 1 (.slice (some ⟨b, off, none⟩) n cap) h n xs) (q : Nat) (d : Array (List UInt8)) (hd : d.size = n) (os : Array Obj) :
    Sl (grow (Sort.putRow encStr (Sort.ahead w q) b off d) os) e 1 (.slice (some ⟨b, off, none⟩) n cap) h n (d.toList.map encStr) := by
  refine ⟨by simp [hd], ?_⟩
  rcases hs.2 with ⟨_, hv, _⟩ | ⟨b', off', cap', cur, hh, hv, hB, hnc, hcm, hcs, ht⟩
  · cases hv
  · simp only [Value.slice.injEq, Option.some.injEq, Addr.mk.injEq, and_true, true_and] at hv
    obtain ⟨⟨rfl, rfl⟩, rfl⟩ := hv
    refine .inr ⟨b, off, cap, _, hh, rfl, grow_blk hB q d os, hnc, hcm, by simpa [putCells] using hcs, ?_⟩
    rw [Nat.mul_one, ← hd]
    exact putCells_at cur d (by omega)
theorem Sl.owner (hs : Sl w e 1 (.slice (some ⟨b, off, none⟩) n cap) h n xs) : h = some b := by
  rcases hs.2 with ⟨_, hv, _⟩ | ⟨b', off', cap', cur, hh, hv, _⟩
  · cases hv
  · simp only [Value.slice.injEq, Option.some.injEq, Addr.mk.injEq, and_true, true_and] at hv
    rw [hh, hv.1.1]
theorem Sl.holds {ss : List (List UInt8)} (hs : Sl w e 1 (.slice (some ⟨b, off, none⟩) n cap) h n (ss.map encStr)) : Holds encStr w b off ss.toArray := by
  have hn : ss.length = n := by have := hs.1; simpa using this
  intro j hj
  have hj' : j < ss.length := by simpa using hj
  obtain ⟨b', off', cap', hh, hv, _, _, _, hat⟩ := hs.at_ (by omega)
  simp only [Value.slice.injEq, Option.some.injEq, Addr.mk.injEq, and_true, true_and] at hv
  obtain ⟨⟨rfl, rfl⟩, rfl⟩ := hv
  obtain ⟨h1, h2⟩ := hat j (by omega)
  refine ⟨?_, h2⟩
  rw [h1]
  simp [hj']
theorem Sl.shrink {size : Nat} {A : Option Addr} (hs : Sl w e size (.slice A n cap) h n xs) (k : Nat) (hk : k ≤ n) : Sl w e size (.slice A k cap) h k (xs.take (k * size)) := by
  have hl : (xs.take (k * size)).length = k * size := by
    rw [List.length_take, hs.1]
    exact Nat.min_eq_left (Nat.mul_le_mul_right _ hk)
  refine ⟨hl, ?_⟩
  rcases hs.2 with ⟨h1, hv, h2⟩ | ⟨b', off', cap', cur, hh, hv, hB, hnc, hcm, hcs, ht⟩
  · injection hv with hv1 _ hv3
    subst h2 hv1 hv3
    obtain rfl : k = 0 := by omega
    exact .inl ⟨h1, rfl, rfl⟩
  · injection hv with hv1 _ hv3
    subst hv1 hv3
    refine .inr ⟨b', off', cap, cur, hh, rfl, hB, by omega, hcm, hcs, ?_⟩
    rw [← ht, List.take_take, Nat.min_eq_left (Nat.mul_le_mul_right _ hk)]
end

/-- What a sort of bytes' rows gives. -/
def sortB (l : List (List UInt8)) : List (List UInt8) := l.mergeSort fun x y => decide (x ≤ y)
theorem sortB_length (l : List (List UInt8)) : (sortB l).length = l.length := by simp [sortB]

set_option maxHeartbeats 400000 in
theorem sortS_any (w : World) (v : Value) (h : Option Nat) (n : Nat) (l : List (List UInt8)) (hs : Sl w 9 1 v h n (l.map encStr)) (hn : n ≤ 1099511627776) :
    Calls Tryz.prog 123 #[v] w fun e w' => e = .returned (.tuple #[]) ∧ Sl w' 9 1 v h n ((sortB l).map encStr) ∧ Chg h.toList w w' := by
  have hl : l.length = n := by have := hs.1; simpa using this
  rcases hs.2 with ⟨rfl, rfl, rfl⟩ | ⟨b, off, cap, cur, rfl, rfl, hB, hnc, hcm, hcs, ht⟩
  · obtain rfl : l = [] := List.eq_nil_of_length_eq_zero hl
    refine (Tryz.slices_Sort_string_none none 0 w).mono ?_
    rintro e w' ⟨rfl, rfl⟩
    exact ⟨rfl, by simpa [sortB] using hs, Chg.refl _ _⟩
  · have hc := Tryz.slices_Sort_string b off cap l w hs.holds hB.lt (by omega)
    rw [hl] at hc
    refine hc.mono ?_
    rintro e w' ⟨rfl, q, os, rfl⟩
    refine ⟨rfl, ?_, grow_chg _ _ _ _ _ _⟩
    have h2 := hs.putRow q (sortB l).toArray (by simp [sortB_length, hl]) os
    exact h2

theorem grow_none (w : World) : grow w #[] = w := by simp [grow]

set_option maxHeartbeats 400000 in
theorem compactS_any (w : World) (v : Value) (h : Option Nat) (n : Nat) (l : List (List UInt8)) (hs : Sl w 9 1 v h n (l.map encStr)) (hn : n ≤ 1099511627776) :
    Calls Tryz.prog 124 #[v] w fun e w' => ∃ v', e = .returned v' ∧ Sl w' 9 1 v' h (Lib.compact l).length ((Lib.compact l).map encStr) ∧ Chg h.toList w w' := by
  have hl : l.length = n := by have := hs.1; simpa using this
  rcases hs.2 with ⟨rfl, rfl, rfl⟩ | ⟨b, off, cap, cur, rfl, rfl, hB, hnc, hcm, hcs, ht⟩
  · obtain rfl : l = [] := List.eq_nil_of_length_eq_zero hl
    refine (Tryz.slices_Compact_string_empty none 0 w).mono ?_
    rintro e w' ⟨rfl, rfl⟩
    exact ⟨_, rfl, hs, Chg.refl _ _⟩
  · have hc := Tryz.slices_Compact_string b off cap l w hs.holds (by omega) (by omega)
    rw [hl] at hc
    have hle := Lib.compact_length_le l
    refine hc.mono ?_
    rintro e w' ⟨rfl, q, rfl⟩
    have h2 := hs.putRow q (Lib.compact l ++ List.replicate (n - (Lib.compact l).length) []).toArray (by simp; omega) #[]
    have h3 := grow_chg w q (Lib.compact l ++ List.replicate (n - (Lib.compact l).length) []).toArray b off #[]
    rw [grow_none] at h2 h3
    refine ⟨_, rfl, ?_, h3⟩
    have h4 := h2.shrink (Lib.compact l).length (by omega)
    have h5 : ((Lib.compact l ++ List.replicate (n - (Lib.compact l).length) []).toArray.toList.map encStr).take ((Lib.compact l).length * 1) = (Lib.compact l).map encStr := by
      simp only [List.map_append, Nat.mul_one]
      rw [List.take_append_of_le_length (by simp), List.take_of_length_le (by simp)]
    rw [h5] at h4
    exact h4

theorem encStr_one (l : List (List UInt8)) : ∀ u ∈ l.map encStr, u.oneCell' = true := by
  intro u hu
  obtain ⟨x, _, rfl⟩ := List.mem_map.1 hu
  rfl

set_option maxRecDepth 100000 in
set_option maxHeartbeats 400000 in
theorem cloneS_any (w : World) (v : Value) (n : Nat) (xs : List Value) (hr : RdS w [] 1 v n xs) (h1 : ∀ u ∈ xs, u.oneCell' = true) (hn : n ≤ 2199023255552) :
    Calls Tryz.prog 122 #[v] w fun e w' => ∃ v' h', e = .returned v' ∧ Sl w' 9 1 v' h' n xs ∧ Below w.heap.size w w' ∧ ∀ b, h' = some b → w.heap.size ≤ b := by
  obtain ⟨i0, hi, hz0, hz1, hz2⟩ := info_parts Try.infoString
  rcases hr with ⟨hlen, ⟨rfl, rfl⟩ | ⟨a, cap, rfl, hnc, hcm, hcell⟩⟩
  · have hx : xs = [] := List.eq_nil_of_length_eq_zero (by simpa using hlen)
    subst hx
    have heq := fun W => Lib.run_eql_slice_nil (P := Tryz.prog) W 38 9 none 0 0 0 0 Tryz.underlying38
    go_enter Tryz.func122, Tryz.ntmps122
    go_wp2
    go_ret
    exact ⟨_, none, rfl, Sl.nil _ _ _, Below.refl _ _, fun b hb => by cases hb⟩
  · have heq := fun W => Lib.run_eql_slice_nil (P := Tryz.prog) W 38 9 (some a) n cap 0 0 Tryz.underlying38
    have hcc := cells_of_rds a hlen hcell
    go_enter Tryz.func122, Tryz.ntmps122
    go_wp2_with (at_builtin; refine wpList_append_slA _ rfl _ _ 38 rfl Tryz.underlying38 hi hz0 hz1 hz2 rfl (by decide) (slOwn_empty w 9 1) rfl a n cap xs rfl hlen ?_ h1 ?_ ?_ ?_)
    · intro j u hu
      have hb := World.block_lt_of_cell? w _ (hcc j u hu)
      rw [World.cell?_alloc_lt w _ _ hb]
      exact hcc j u hu
    · unfold maxLen
      omega
    · omega
    · intro v2 h2 w2 hs2 hc2 ho2
      have hbel : Below w.heap.size w w2 := ⟨hc2.os, hc2.tape, hc2.output, Nat.le_trans (by simp) hc2.size, fun k hk => (hc2.block k (by simp; omega) (by simp; omega)).trans (Below.heap_alloc w _ k hk)⟩
      have hfr : ∀ b, h2 = some b → w.heap.size ≤ b := by
        intro b hb
        rcases ho2 with h3 | ⟨g, h3, h4⟩
        · rw [hb] at h3
          injection h3 with h3
          omega
        · rw [hb] at h3
          injection h3 with h3
          omega
      clear hc2 ho2
      go_wp2
      go_ret
      exact ⟨v2, h2, rfl, hs2, hbel, hfr⟩

end Go.Proofs.YtgkfknbhkonfdaaGreatDoor

namespace Go.Proofs.YtgkfknbhkonfdaaGreatDoor
open Go.RowKit Go.Sort
attribute [local go_sem ↓] Go.wp_at_zero Go.wp_at_succ

abbrev Texts := List (List UInt8)
/-- No text is longer than any that came in. -/
def Short (l : Texts) : Prop := ∀ s ∈ l, s.length ≤ 140737488351232

set_option maxHeartbeats 400000 in
theorem keysC_any (s : ByteArray) (w : World) (hs : s.size ≤ 140737488351232) :
    Calls Tryz.prog 120 #[.string s] w fun e w' => e = .returned (.bool (!rightL s.data.toList)) ∧ Below w.heap.size w w' := by
  have h := right_any s w hs
  go_enter Tryz.func120, Tryz.ntmps120
  go_wp2_with (go_at_call 121; refine h.mono ?_; rintro e w2 ⟨rfl, hb2⟩)
  go_ret
  exact ⟨rfl, hb2⟩

/-- The place of the first text that is no keyword; below nought: there is none. -/
def badAt : Texts → Nat → Int
  | [], _ => -1
  | s :: r, k => if rightL s = true then badAt r (k + 1) else k
theorem badAt_drop (l : Texts) (k : Nat) (hk : k < l.length) (h : rightL l[k] = true) : badAt (l.drop k) k = badAt (l.drop (k + 1)) (k + 1) := by
  rw [List.drop_eq_getElem_cons hk, badAt, if_pos h]
theorem badAt_here (l : Texts) (k : Nat) (hk : k < l.length) (h : rightL l[k] = false) : badAt (l.drop k) k = k := by
  rw [List.drop_eq_getElem_cons hk, badAt, if_neg (by simp [h])]
theorem badAt_neg : ∀ (l : Texts) (k : Nat), (0 ≤ badAt l k) ↔ l.any (fun s => !rightL s) = true
  | [], k => by simp [badAt]
  | s :: r, k => by
    rw [badAt, List.any_cons]
    by_cases h : rightL s = true
    · rw [if_pos h, h, badAt_neg r (k + 1)]
      simp
    · rw [if_neg h]
      simp [h]

theorem RdS.str {w : World} {S : List Nat} {v : Value} {n : Nat} {l : Texts} (h : RdS w S 1 v n (l.map encStr)) (k : Nat) (hk : k < l.length) : ∃ b off cap, v = .slice (some ⟨b, off, none⟩) n cap ∧ b < w.heap.size ∧ b ∉ S ∧ w.cell? ⟨b, off + k, none⟩ = some (encStr l[k]) := by
  have hn : l.length = n := by have := h.1; simpa using this
  obtain ⟨b, off, cap, hv, _, _, hbl, hbs, hat⟩ := h.at_ (by omega)
  refine ⟨b, off, cap, hv, hbl, hbs, ?_⟩
  rw [hat k (by omega)]
  simp [hk]

set_option maxRecDepth 100000 in
set_option maxHeartbeats 1000000 in
theorem indexS_any (w : World) (v : Value) (n : Nat) (l : Texts) (hn : l.length = n) (hr : RdS w [] 1 v n (l.map encStr)) (hs : Short l) :
    Calls Tryz.prog 175 #[v, .func (.func 120) #[] #[]] w fun e w' => e = .returned (.int .i64 (badAt l 0)) ∧ Below w.heap.size w w' := by
  obtain ⟨A, cap, rfl, _, hcap⟩ := hr.form
  have hmb : n ≤ 9223372036854775807 := by
    unfold maxLen at hcap
    omega
  obtain ⟨ans, hans⟩ : ∃ ans, badAt l 0 = ans := ⟨_, rfl⟩
  rw [hans]
  have HR := Lib.hid hr
  have HN := Lib.hid hn
  have HS := Lib.hid hs
  have HANS : Hid (badAt (l.drop 0) 0 = ans) := Lib.hid (by simpa using hans)
  clear hr hn hs hans
  go_enter Tryz.func175, Tryz.ntmps175
  go_wp2
  go_loopw [8] (fun i wr => ∃ k : Nat, k ≤ n ∧ i = .int .i64 k ∧ Hid (badAt (l.drop k) k = ans) ∧ Hid (Below w.heap.size w wr)) (fun i _ => n - (intOf i).toNat)
  case atStart => exact ⟨0, Nat.zero_le _, rfl, HANS, Lib.hid (Below.refl _ _)⟩
  case round =>
    obtain ⟨k, hk, rfl, HA, HB⟩ := hrel
    by_cases hlt : k < n
    · have hke : k < l.length := by rw [HN.out]; exact hlt
      obtain ⟨b, off, cap2, hva, hbl, _, hat⟩ := HR.out.str k hke
      injection hva with hva1 _ hva3
      subst hva1
      subst hva3
      have d0 : wr.cell? ⟨b, off + k, none⟩ = some (encStr l[k]) := (HB.out.cell (p := ⟨b, off + k, none⟩) hbl).trans hat
      clear hat
      have hsz := HS.out l[k] (List.getElem_mem hke)
      have hstep := badAt_drop l k hke
      have hhere := badAt_here l k hke
      generalize l[k] = s at d0 hsz hstep hhere
      have hc := keysC_any ⟨s.toArray⟩ wr (by show s.toArray.size ≤ _; simpa using hsz)
      simp only at hc
      cases hrt : rightL s
      · rw [hrt] at hc
        have he : ans = (k : Int) := by rw [← HA.out, hhere hrt]
        subst he
        have HB0 := Lib.hid HB.out
        clear hrt hstep hhere hsz HANS
        go_wp2_with (go_at_call 120; refine hc.mono ?_; rintro e w2 ⟨rfl, hb2⟩; have HB2 := Lib.hid (bthen HB0.out hb2); clear hb2 hc)
        go_ret
        exact ⟨rfl, HB2.out⟩
      · rw [hrt] at hc
        have HA2 := Lib.hid ((hstep hrt).symm.trans HA.out)
        have HB0 := Lib.hid HB.out
        clear hrt hstep hhere hsz
        go_wp2_with (go_at_call 120; refine hc.mono ?_; rintro e w2 ⟨rfl, hb2⟩; have HB2 := Lib.hid (bthen HB0.out hb2); clear hb2 hc)
        refine ⟨?_, by simp [intOf]; omega⟩
        first | exact ⟨k + 1, by omega, by go_num, HA2, HB2⟩ | ((repeat apply Exists.intro); exact ⟨⟨k + 1, by omega, by go_num, HA2, HB2⟩, rfl⟩)
    · have hkn : k = n := by omega
      subst hkn
      have he : ans = -1 := by
        rw [← HA.out, List.drop_of_length_le (by rw [HN.out]; exact Nat.le_refl _)]
        rfl
      subst he
      go_wp2
      go_ret
      exact ⟨rfl, HB.out⟩

set_option maxHeartbeats 400000 in
theorem containsS_any (w : World) (v : Value) (n : Nat) (l : Texts) (hn : l.length = n) (hr : RdS w [] 1 v n (l.map encStr)) (hs : Short l) :
    Calls Tryz.prog 119 #[v, .func (.func 120) #[] #[]] w fun e w' => e = .returned (.bool (l.any fun s => !rightL s)) ∧ Below w.heap.size w w' := by
  have h := indexS_any w v n l hn hr hs
  obtain ⟨A, cap, rfl, _, _⟩ := hr.form
  have hneg := badAt_neg l 0
  have hb : decide (0 ≤ badAt l 0) = l.any (fun s => !rightL s) := by
    rw [Bool.eq_iff_iff, decide_eq_true_iff]
    exact hneg
  generalize badAt l 0 = x at h hb
  generalize (l.any fun s => !rightL s) = bb at hb
  have HB := Lib.hid hb
  clear hneg hb hr hs hn
  go_enter Tryz.func119, Tryz.ntmps119
  go_wp2_with (go_at_call 175; refine h.mono ?_; rintro e w2 ⟨rfl, hb2⟩)
  go_ret
  exact ⟨ret_bool HB.out, hb2⟩

/-- Keywords: rising, each once; and the error's number. -/
def keysF (l : Texts) : Texts × Int :=
  if l.any (fun s => !rightL s) = true then ([], 1)
  else if 16 < (Lib.compact (sortB l)).length then ([], 13) else (Lib.compact (sortB l), 0)

set_option maxRecDepth 100000 in
set_option maxHeartbeats 1000000 in
theorem keys_any (w : World) (v : Value) (n : Nat) (l : Texts) (hn : l.length = n) (hnb : n ≤ 1099511627776) (hr : RdS w [] 1 v n (l.map encStr)) (hs : Short l) :
    Calls Tryz.prog 61 #[v] w fun e w' => ∃ A cap hh, e = .returned (.tuple #[.slice A (keysF l).1.length cap, .int .i64 (keysF l).2]) ∧ Sl w' 9 1 (.slice A (keysF l).1.length cap) hh (keysF l).1.length ((keysF l).1.map encStr) ∧ Below w.heap.size w w' ∧ ∀ b, hh = some b → w.heap.size ≤ b := by
  have hc := containsS_any w v n l hn hr hs
  have hcl := fun W (hb : Below w.heap.size w W) => cloneS_any W v n (l.map encStr) (hr.below hb) (encStr_one l) (by omega)
  obtain ⟨A, cap, rfl, _, _⟩ := hr.form
  unfold keysF
  cases hbad : l.any (fun s => !rightL s)
  · rw [hbad] at hc
    rw [if_neg (by decide)]
    have HCL := Lib.hid hcl
    have hso := fun W v h hs => sortS_any W v h n l hs hnb
    have hco := fun W v h hs => compactS_any W v h n (sortB l) hs hnb
    have hle : (Lib.compact (sortB l)).length ≤ n := by
      have := Lib.compact_length_le (sortB l)
      rw [sortB_length] at this
      omega
    generalize Lib.compact (sortB l) = ks at hco hle
    obtain ⟨K, hK⟩ : ∃ K, ks.length = K := ⟨_, rfl⟩
    rw [hK] at hco hle
    have HK := Lib.hid hK
    clear hbad hcl hn hr hs
    by_cases hm : 16 < K
    · rw [if_pos (by rw [hK]; exact hm)]
      clear hK
      go_enter Tryz.func61, Tryz.ntmps61
      go_wp2_with (first
        | (go_at_call 119; refine hc.mono ?_; rintro e w2 ⟨rfl, hb2⟩; have hcl2 := HCL.out _ hb2; have HB2 := Lib.hid hb2; clear hb2 hc)
        | (go_at_call 122; refine hcl2.mono ?_; rintro e w3 ⟨v3, h3, rfl, hs3, hb3, hf3⟩; have HB3 := Lib.hid (bthen HB2.out hb3); have hso3 := hso _ _ _ hs3; have HF3 := Lib.hid hf3; clear hs3 hb3 hf3 hcl2)
        | (go_at_call 123; refine hso3.mono ?_; rintro e w4 ⟨rfl, hs4, hc4⟩; have hco4 := hco _ _ _ hs4; have HC4 := Lib.hid hc4; clear hs4 hc4 hso3)
        | (go_at_call 124; refine hco4.mono ?_; rintro e w5 ⟨v5, rfl, hs5, hc5⟩; obtain ⟨A5, cap5, rfl, _, _⟩ := hs5.form; have HC5 := Lib.hid (HC4.out.trans hc5 (fun i hi => .inl hi)); clear hs5 hc5 hco4)
        | fail)
      go_ret2
      refine ⟨none, 0, none, rfl, Sl.nil _ _ _, ?_, fun b hb => by cases hb⟩
      exact HB3.out.trans (HC5.out.below HB3.out.size fun k hk => Nat.le_trans HB2.out.size (HF3.out k (by simpa using hk)))
    · rw [if_neg (by rw [hK]; exact hm)]
      clear hK
      go_enter Tryz.func61, Tryz.ntmps61
      go_wp2_with (first
        | (go_at_call 119; refine hc.mono ?_; rintro e w2 ⟨rfl, hb2⟩; have hcl2 := HCL.out _ hb2; have HB2 := Lib.hid hb2; clear hb2 hc)
        | (go_at_call 122; refine hcl2.mono ?_; rintro e w3 ⟨v3, h3, rfl, hs3, hb3, hf3⟩; have HB3 := Lib.hid (bthen HB2.out hb3); have hso3 := hso _ _ _ hs3; have HF3 := Lib.hid hf3; clear hs3 hb3 hf3 hcl2)
        | (go_at_call 123; refine hso3.mono ?_; rintro e w4 ⟨rfl, hs4, hc4⟩; have hco4 := hco _ _ _ hs4; have HC4 := Lib.hid hc4; clear hs4 hc4 hso3)
        | (go_at_call 124; refine hco4.mono ?_; rintro e w5 ⟨v5, rfl, hs5, hc5⟩; obtain ⟨A5, cap5, rfl, _, _⟩ := hs5.form; have HC5 := Lib.hid (HC4.out.trans hc5 (fun i hi => .inl hi)); have HS5 := Lib.hid hs5; clear hs5 hc5 hco4)
        | fail)
      go_ret2
      have hk := HK.out
      simp only [hk]
      refine ⟨_, _, _, rfl, HS5.out, ?_, fun b hb => Nat.le_trans HB2.out.size (HF3.out b hb)⟩
      exact HB3.out.trans (HC5.out.below HB3.out.size fun k hk => Nat.le_trans HB2.out.size (HF3.out k (by simpa using hk)))
  · rw [hbad] at hc
    rw [if_pos rfl]
    clear hbad hcl hn hr hs
    go_enter Tryz.func61, Tryz.ntmps61
    go_wp2_with (go_at_call 119; refine hc.mono ?_; rintro e w2 ⟨rfl, hb2⟩)
    go_ret2
    exact ⟨none, 0, none, rfl, Sl.nil _ _ _, hb2, fun b hb => by cases hb⟩

end Go.Proofs.YtgkfknbhkonfdaaGreatDoor

namespace Go.Proofs.YtgkfknbhkonfdaaGreatDoor
open Go.Lib

/-- The lines of what is left of a text, and the places behind them. -/
def linesF : Nat → List UInt8 → Nat → List (List UInt8 × Nat)
  | 0, _, _ => []
  | f + 1, s, p =>
    if s = [] then []
    else if Lib.indexByte s 10 < 0 then [(s, p + s.length)]
    else (Lib.trimSuffix (s.take (Lib.indexByte s 10).toNat) [13], p + ((Lib.indexByte s 10).toNat + 1)) :: linesF f (s.drop ((Lib.indexByte s 10).toNat + 1)) (p + ((Lib.indexByte s 10).toNat + 1))
def blankB (t : List UInt8) : Bool := decide (t[0]? = some 32) || decide (t[0]? = some 9)
/-- A line more: it goes on with the last one, or is another. -/
def addLine (g : List (List UInt8)) (t : List UInt8) : List (List UInt8) := if g ≠ [] ∧ blankB t = true then g.dropLast ++ [(g.getLast?.getD []) ++ t] else g ++ [t]
def gatherF : List (List UInt8 × Nat) → List (List UInt8) → Nat → List (List UInt8) × Nat
  | [], g, b => (g, b)
  | (t, p) :: r, g, b => if t = [] then (g, p) else gatherF r (addLine g t) b
/-- The field that a text is; false: it is none. -/
def oneF (s : List UInt8) : (List UInt8 × List UInt8) × Bool :=
  (((Lib.cut s [58]).1, Lib.trimS (Lib.cut s [58]).2.1 [32, 9]), (Lib.cut s [58]).2.2 && ((Lib.cut s [58]).1.all (fun b => decide (33 ≤ b.toNat) && decide (b.toNat ≤ 126)) && !decide ((Lib.cut s [58]).1 = [])))
def fieldsG (g : List (List UInt8)) : List (List UInt8 × List UInt8) := g.filterMap fun s => if (oneF s).2 then some (oneF s).1 else none
def fieldsF : List (List UInt8) → List (List UInt8 × List UInt8)
  | [] => []
  | s :: r => fieldsG (if blankB s = true then r else s :: r)
def splitF (s : List UInt8) : List (List UInt8 × List UInt8) × Nat := (fieldsF (gatherF (linesF s.length s 0) [] s.length).1, (gatherF (linesF s.length s 0) [] s.length).2)
def firstF (l : List (List UInt8 × List UInt8)) (name : List UInt8) : List UInt8 × Bool := match l.find? (fun f => decide (lowL f.1 = lowL name)) with
  | some f => (f.2, true)
  | none => ([], false)
def headF (t name : List UInt8) : List UInt8 := (firstF (splitF t).1 name).1

theorem addLine_ne {g : List (List UInt8)} {t : List UInt8} (hg : ∀ x ∈ g, x ≠ []) (ht : t ≠ []) : ∀ x ∈ addLine g t, x ≠ [] := by
  intro x hx
  unfold addLine at hx
  split at hx
  · rename_i h
    rw [List.mem_append, List.mem_singleton] at hx
    rcases hx with hx | rfl
    · exact hg x (List.dropLast_subset g hx)
    · simp [ht]
  · rw [List.mem_append, List.mem_singleton] at hx
    rcases hx with hx | rfl
    · exact hg x hx
    · exact ht
def sumL (g : List (List UInt8)) : Nat := (g.map List.length).sum
theorem sumL_append (a b : List (List UInt8)) : sumL (a ++ b) = sumL a + sumL b := by simp [sumL]
theorem addLine_sum (g : List (List UInt8)) (t : List UInt8) : sumL (addLine g t) = sumL g + t.length := by
  unfold addLine
  split
  · rename_i h
    obtain ⟨g', z, rfl⟩ : ∃ g' z, g = g' ++ [z] := ⟨g.dropLast, g.getLast h.1, (List.dropLast_concat_getLast _).symm⟩
    simp [sumL]
    omega
  · simp [sumL]
theorem addLine_length (g : List (List UInt8)) (t : List UInt8) : (addLine g t).length ≤ g.length + 1 := by
  unfold addLine
  split
  · simp
  · simp

end Go.Proofs.YtgkfknbhkonfdaaGreatDoor

namespace Go.Proofs.YtgkfknbhkonfdaaGreatDoor
open Go Go.Proofs Go.Shelf Go.RowKit Go.Lib
variable {P : Program} {ρ : Ren}

set_option maxHeartbeats 2000000 in
set_option maxRecDepth 100000 in
theorem lite_Cut_one (L : Lays.n220 P ρ) (s : ByteArray) (c : UInt8) (w : World) (hs : s.size < 4294967281) :
    Calls P (ρ.f 220) #[.string s, .string ⟨#[c]⟩] w fun e w' => e = .returned (.tuple #[.string ⟨(Lib.cut s.data.toList [c]).1.toArray⟩, .string ⟨(Lib.cut s.data.toList [c]).2.1.toArray⟩, .bool (Lib.cut s.data.toList [c]).2.2]) ∧ ∃ n, w' = w.drewN n := by
  have hsep : (⟨#[c]⟩ : ByteArray).data.toList = [c] := rfl
  rcases Lib.indexB_cases s ⟨#[c]⟩ with hix | ⟨i, hix, hroom⟩
  · obtain ⟨e1, e2, e3⟩ := Lib.cutB_miss s ⟨#[c]⟩ hix
    rw [hsep] at e1 e2 e3
    rw [e1, e2, e3]
    have t3 := L.t3; have t4 := L.t4; have t9 := L.t9
    have a3 : ∀ w, (isAgg (ρ.t 3)).run P w = .ok false w := run_isAgg_plain L.t3 rfl; have a4 : ∀ w, (isAgg (ρ.t 4)).run P w = .ok false w := run_isAgg_plain L.t4 rfl; have a9 : ∀ w, (isAgg (ρ.t 9)).run P w = .ok false w := run_isAgg_plain L.t9 rfl
    have e219 : ∀ args w, (callFunc (ρ.f 219) args).run P w = .ok (.enter (ρ.f 219) args) w := enters_of L.f219 (by kernel_rfl) rfl
    have mixed := L.mixed; have z3 := L.z3; have v3 := L.v3; have z4 := L.z4; have v4 := L.v4; have z9 := L.z9; have v9 := L.v9
    go_enter L.f220, Body.n220_ntmps ρ
    go_wp2_with (go_at_fn (ρ.f 219); refine (Any.stringslite_Index_one { L with } _ _ _).mono ?_; rintro e w' ⟨rfl, rfl⟩; rw [show Lib.indexByte s.data.toList c = _ from (Lib.index_one _ _).symm.trans hix])
    go_ret3
    exact ⟨rfl, 0, rfl⟩
  · obtain ⟨e1, e2, e3⟩ := Lib.cutB_hit s ⟨#[c]⟩ i hix
    rw [hsep] at e1 e2 e3
    rw [e1, e2, e3]
    have hsz : (⟨#[c]⟩ : ByteArray).size = 1 := rfl
    have c1 : (0 : Int) ≤ ↑i := by omega
    have c2 : (↑i : Int) ≤ ↑s.size := by omega
    have c3 : (0 : Int) ≤ ↑i + 1 := by omega
    have c4 : (↑i + 1 : Int) ≤ ↑s.size := by omega
    have c5 : IntKind.i64.wrap ((i : Int) + 1) = (i : Int) + 1 := IntWalk.i64_in _ (by omega)
    have t3 := L.t3; have t4 := L.t4; have t9 := L.t9
    have a3 : ∀ w, (isAgg (ρ.t 3)).run P w = .ok false w := run_isAgg_plain L.t3 rfl; have a4 : ∀ w, (isAgg (ρ.t 4)).run P w = .ok false w := run_isAgg_plain L.t4 rfl; have a9 : ∀ w, (isAgg (ρ.t 9)).run P w = .ok false w := run_isAgg_plain L.t9 rfl
    have e219 : ∀ args w, (callFunc (ρ.f 219) args).run P w = .ok (.enter (ρ.f 219) args) w := enters_of L.f219 (by kernel_rfl) rfl
    have mixed := L.mixed; have z3 := L.z3; have v3 := L.v3; have z4 := L.z4; have v4 := L.v4; have z9 := L.z9; have v9 := L.v9
    go_enter L.f220, Body.n220_ntmps ρ
    go_wp2_with (go_at_fn (ρ.f 219); refine (Any.stringslite_Index_one { L with } _ _ _).mono ?_; rintro e w' ⟨rfl, rfl⟩; rw [show Lib.indexByte s.data.toList c = _ from (Lib.index_one _ _).symm.trans hix])
    go_region_o
    go_wp2
    go_ret3
    exact ⟨rfl, 1, rfl⟩

set_option maxHeartbeats 1000000 in
theorem cut_one (L : Lays.n145 P ρ) (s : ByteArray) (c : UInt8) (w : World) (hs : s.size < 4294967281) :
    Calls P (ρ.f 145) #[.string s, .string ⟨#[c]⟩] w fun e w' => e = .returned (.tuple #[.string ⟨(Lib.cut s.data.toList [c]).1.toArray⟩, .string ⟨(Lib.cut s.data.toList [c]).2.1.toArray⟩, .bool (Lib.cut s.data.toList [c]).2.2]) ∧ ∃ n, w' = w.drewN n := by
  have t4 := L.t4; have t9 := L.t9; have t59 := L.t59
  have a4 : ∀ w, (isAgg (ρ.t 4)).run P w = .ok false w := run_isAgg_plain L.t4 rfl; have a9 : ∀ w, (isAgg (ρ.t 9)).run P w = .ok false w := run_isAgg_plain L.t9 rfl; have a59 : ∀ w, (isAgg (ρ.t 59)).run P w = .ok false w := run_isAgg_plain L.t59 rfl
  have e220 : ∀ args w, (callFunc (ρ.f 220) args).run P w = .ok (.enter (ρ.f 220) args) w := enters_of L.f220 (by kernel_rfl) rfl
  have mixed := L.mixed; have z4 := L.z4; have v4 := L.v4; have z9 := L.z9; have v9 := L.v9; have z59 := L.z59; have v59 := L.v59
  go_enter L.f145, Body.n145_ntmps ρ
  go_wp2_with (go_at_fn (ρ.f 220); refine (lite_Cut_one { L with } _ _ _ hs).mono ?_; rintro e w' ⟨rfl, n, rfl⟩)
  go_ret3
  exact ⟨rfl, n, rfl⟩

end Go.Proofs.YtgkfknbhkonfdaaGreatDoor

namespace Go.Proofs.YtgkfknbhkonfdaaGreatDoor
open Go.Shelf Go.RowKit

shelf_lay Lays.n160 Nm 160 at Tryz as Tryz.lays160

theorem trim_any (s : List UInt8) (w : World) (hs : s.length ≤ 4294967281) :
    Calls Tryz.prog 234 #[.string ⟨s.toArray⟩, .string ⟨#[32, 9]⟩] w fun e w' => e = .returned (.string ⟨(Lib.trimS s [32, 9]).toArray⟩) ∧ Below w.heap.size w w' :=
  Any.strings_Trim_laid Tryz.lays160 (by kernel_rfl) ⟨s.toArray⟩ ⟨#[32, 9]⟩ w (by show s.toArray.size ≤ _; simp; omega) (by decide) (ascii_of_all (by decide))
theorem cut_any (s : List UInt8) (w : World) (hs : s.length < 4294967281) :
    Calls Tryz.prog 233 #[.string ⟨s.toArray⟩, .string ⟨#[58]⟩] w fun e w' => e = .returned (.tuple #[.string ⟨(Lib.cut s [58]).1.toArray⟩, .string ⟨(Lib.cut s [58]).2.1.toArray⟩, .bool (Lib.cut s [58]).2.2]) ∧ ∃ n, w' = w.drewN n :=
  cut_one Tryz.lays145 ⟨s.toArray⟩ 58 w (by show s.toArray.size < _; simp; omega)

end Go.Proofs.YtgkfknbhkonfdaaGreatDoor
