/-
  The walk of the reference's Read: the set that a text tells, or why there is none; nothing that was there turns.
-/
import Derived.Test.YtogmdfjgedekgaaDoorSeqRefMerge
import Derived.Test.YtogmdfjgedekgaaDoorSeqRead
import Derived.Test.YtogmdfjgedekgaaDoorRefIndex
import Derived.WalkSpells
namespace Go.Proofs.YtogmdfjgedekgaaDoor
open Go.Shelf Go.RowKit Go.Lib Go.Sort
attribute [local go_sem ↓] Go.wp_at_zero Go.wp_at_succ

def refGo (star : Int) : List (List UInt8) → List Rg → Option (List Rg)
  | [], acc => some acc
  | p :: ps, acc => if (partL p star).2 then refGo star ps (acc ++ [(partL p star).1]) else none
def refReadL (l : List UInt8) (star : Int) : List Rg × Int :=
  if 1000 < l.length then ([], 2) else match refGo star (piecesC 44 l) [] with
    | none => ([], 3)
    | some a => (rGo a, 0)

/-- What the loop keeps. -/
structure QSt (w wr : World) (l : List UInt8) (star : Int) (r : Option (List Rg)) (i f : Nat) (o : Value) (acc : List Rg) (h : Option Nat) : Prop where
  sl : Sl wr 35 2 o h acc.length (flatR acc)
  bel : RowKit.Below w.heap.size w wr
  len : acc.length ≤ i
  rng : ∀ x ∈ acc, 0 ≤ x.1 ∧ x.1 ≤ 9223372036854775807 ∧ x.2 ≤ 9223372036854775807
  own : ∀ b, h = some b → w.heap.size ≤ b
  go : i ≤ l.length → r = refGo star (piecesC 44 (l.drop f)) acc ∧ f ≤ i ∧ ∀ b ∈ (l.drop f).take (i - f), b ≠ 44
  fin : l.length < i → r = some acc

theorem QSt.more {w wr : World} {l : List UInt8} {star : Int} {r : Option (List Rg)} {i f : Nat} {o : Value} {acc : List Rg} {h : Option Nat} (s : QSt w wr l star r i f o acc h) (hi : i < l.length) (hb : l[i] ≠ 44) : QSt w wr l star r (i + 1) f o acc h := by
  obtain ⟨h1, h2, h3⟩ := s.go (by omega)
  refine ⟨s.sl, s.bel, by have := s.len; omega, s.rng, s.own, fun _ => ⟨h1, by omega, ?_⟩, fun h => by omega⟩
  intro b hbm
  rw [show i + 1 - f = (i - f) + 1 by omega, List.take_add_one] at hbm
  rcases List.mem_append.1 hbm with hm | hm
  · exact h3 b hm
  · rw [List.getElem?_drop, show f + (i - f) = i by omega, List.getElem?_eq_getElem hi] at hm
    simp at hm
    rw [hm]
    exact hb

/-- A piece's end: what is to be told of it and what comes behind. -/
theorem QSt.piece {w wr : World} {l : List UInt8} {star : Int} {r : Option (List Rg)} {i f : Nat} {o : Value} {acc : List Rg} {h : Option Nat} (s : QSt w wr l star r i f o acc h) (hi : i ≤ l.length) (hb : ∀ h : i < l.length, l[i] = 44) (p : List UInt8) (hp : (l.drop f).take (i - f) = p) :
    r = (if (partL p star).2 then (if i < l.length then refGo star (piecesC 44 (l.drop (i + 1))) (acc ++ [(partL p star).1]) else some (acc ++ [(partL p star).1])) else none) ∧ f ≤ i := by
  obtain ⟨h1, h2, h3⟩ := s.go hi
  refine ⟨?_, h2⟩
  rw [hp] at h3
  have hsplit : l.drop f = p ++ l.drop i := by
    rw [← hp]
    have : l.drop i = (l.drop f).drop (i - f) := by rw [List.drop_drop, show f + (i - f) = i by omega]
    rw [this, List.take_append_drop]
  rw [h1, hsplit]
  by_cases hlt : i < l.length
  · have hd : l.drop i = 44 :: l.drop (i + 1) := by rw [List.drop_eq_getElem_cons hlt, hb hlt]
    rw [hd, piecesC_cut 44 p _ h3, if_pos hlt]
    rfl
  · rw [List.drop_of_length_le (by omega), List.append_nil, piecesC_end 44 p h3, if_neg hlt]
    rfl

theorem QSt.push {w wr w' : World} {l : List UInt8} {star : Int} {r : Option (List Rg)} {i f : Nat} {o v' : Value} {acc : List Rg} {h h' : Option Nat} (s : QSt w wr l star r i f o acc h) {a b : Int}
    (hgo : r = if i < l.length then refGo star (piecesC 44 (l.drop (i + 1))) (acc ++ [(a, b)]) else some (acc ++ [(a, b)])) (hr : 0 ≤ a ∧ a ≤ 9223372036854775807 ∧ b ≤ 9223372036854775807)
    (hs2 : Sl w' 35 2 v' h' (acc.length + 1) (flatR acc ++ [.int .i64 a, .int .i64 b])) (hc2 : Chg h.toList wr w') (ho2 : h' = h ∨ ∃ g, h' = some g ∧ wr.heap.size ≤ g) :
    QSt w w' l star r (i + 1) (i + 1) v' (acc ++ [(a, b)]) h' := by
  refine ⟨?_, s.bel.trans (hc2.below s.bel.size fun k hk => s.own k (by simpa using hk)), ?_, ?_, ?_, ?_, ?_⟩
  · have e := flatR_snoc acc a b
    rw [e] at hs2
    simpa using hs2
  · have := s.len
    simp
    omega
  · intro x hx
    rcases List.mem_append.1 hx with hx | hx
    · exact s.rng x hx
    · rw [List.mem_singleton.1 hx]
      exact hr
  · intro g hg
    have := s.bel.size
    rcases ho2 with h1 | ⟨g', h1, h2⟩
    · exact s.own g (by rw [← h1]; exact hg)
    · rw [hg] at h1
      injection h1 with h1
      omega
  · intro hi
    rw [if_pos (by omega)] at hgo
    exact ⟨hgo, Nat.le_refl _, by simp⟩
  · intro hi
    rw [if_neg (by omega)] at hgo
    exact hgo

theorem cut_hit (l : List UInt8) (j : Nat) (h : index l [58] = j) : cutL l = (l.take j, l.drop (j + 1)) := by
  have hc : Lib.cut l [58] = (l.take j, l.drop (j + 1), true) := by
    unfold Lib.cut
    rw [h, if_pos (by omega)]
    simp
  unfold cutL
  rw [hc]
  simp
theorem cut_miss (l : List UInt8) (h : index l [58] = -1) : cutL l = (l, l) := by
  have hc : Lib.cut l [58] = (l, [], false) := by
    unfold Lib.cut
    rw [h]
    rfl
  unfold cutL
  rw [hc]
  simp

set_option maxRecDepth 100000 in
set_option maxHeartbeats 8000000 in
theorem refRead_any (s : ByteArray) (star : Int) (w : World) (hs : s.size ≤ 140737488351232) (hst : star ≤ 9223372036854775807) :
    Calls Tryd.prog 17 #[.string s, .int .i64 star] w (RetR w.heap.size w (refReadL s.data.toList star)) := by
  have hsz := lenB s
  obtain ⟨i0, hi, hz0, hz1, hz2⟩ := info_parts Tryd.infoRange
  by_cases hlong : 1000 < s.size
  · have hr : refReadL s.data.toList star = ([], 2) := by
      unfold refReadL
      rw [if_pos (by omega)]
    rw [hr]
    clear hr hst
    go_enter Tryd.func17, Tryd.ntmps17
    go_wp2
    go_ret2
    exact ⟨_, none, rfl, Sl.nil _ _ _, RowKit.Below.refl _ _⟩
  · have hrl : refReadL s.data.toList star = match refGo star (piecesC 44 s.data.toList) [] with
        | none => ([], 3)
        | some a => (rGo a, 0) := by
      unfold refReadL
      rw [if_neg (by omega)]
    rw [hrl]
    obtain ⟨ro, hro⟩ : ∃ ro, refGo star (piecesC 44 s.data.toList) [] = ro := ⟨_, rfl⟩
    rw [hro]
    have HRO := Lib.hid hro
    have HLEN := Lib.hid hsz
    clear hrl hro hsz
    go_enter Tryd.func17, Tryd.ntmps17
    go_wp2
    go_loopw [6, 7, 8] (fun o fv iv wr => ∃ (i f : Nat) (acc : List Rg) (h : Option Nat), i ≤ s.size + 1 ∧ iv = .int .i64 i ∧ fv = .int .i64 f ∧ Hid (QSt w wr s.data.toList star ro i f o acc h)) (fun _ _ iv _ => s.size + 1 - (intOf iv).toNat)
    case atStart => exact ⟨0, 0, [], none, Nat.zero_le _, rfl, rfl, Lib.hid ⟨Sl.nil _ _ _, RowKit.Below.refl _ _, Nat.le_refl _, by simp, by simp, fun _ => ⟨HRO.out.symm, Nat.le_refl _, by simp⟩, fun h => by simp at h⟩⟩
    case round =>
      obtain ⟨i, f, acc, h, hik, rfl, rfl, HS⟩ := hrel
      clear HRO
      by_cases hlt : i ≤ s.size
      · by_cases hc : ∃ hi' : i < s.size, s[i] ≠ 44
        · obtain ⟨hi', hne⟩ := hc
          have hne2 : s.data.toList[i]'(by simpa using hi') ≠ 44 := hne
          have HS2 := Lib.hid (HS.out.more (by rw [HLEN.out]; exact hi') hne2)
          have hb : (((s[i]'hi').toNat : Int) != 44) = true := by
            rw [bne_iff_ne]
            intro e
            exact hne (UInt8.toNat_inj.1 (by show _ = (44 : Nat); omega))
          clear hne hne2
          go_wp2
          go_roundw
          case rel => exact ⟨i + 1, f, _, _, by omega, by go_num, rfl, HS2⟩
          case measure => simp [intOf]; omega
        · obtain ⟨p, hp⟩ : ∃ p : ByteArray, s.extract f i = p := ⟨_, rfl⟩
          have hpl : (s.data.toList.drop f).take (i - f) = p.data.toList := by rw [← hp, extract_mid]
          have h44 : ∀ h : i < s.data.toList.length, s.data.toList[i] = 44 := by
            intro h
            by_cases he : s.data.toList[i] = 44
            · exact he
            · exact absurd ⟨by simpa using h, he⟩ hc
          obtain ⟨hro, hfi⟩ := HS.out.piece (by rw [HLEN.out]; exact hlt) h44 p.data.toList hpl
          have hpsz : p.size ≤ 1000 := by
            have h1 := lenB p
            have h2 := congrArg List.length hpl
            rw [List.length_take, List.length_drop, HLEN.out] at h2
            omega
          have hg : (decide (i < s.size) = false) ∨ ∃ hi' : i < s.size, ((((s[i]'hi').toNat : Int) != 44) = false ∧ decide (i < s.size) = true) := by
            by_cases hi' : i < s.size
            · right
              refine ⟨hi', ?_, decide_eq_true hi'⟩
              have := h44 (by simpa using hi')
              have h2 : s[i]'hi' = 44 := this
              rw [h2]
              rfl
            · exact .inl (decide_eq_false hi')
          have hidx := fun W => refIndex_any p ⟨#[58]⟩ W (by omega) (by decide) (by decide)
          have hrg := partL_rng p.data.toList star hst
          have hps := lenB p
          have HP := Lib.hid hpl
          have HRO := Lib.hid hro
          have HSL := Lib.hid HS.out.sl
          have hnl := HS.out.len
          have HPUSH := fun w' v' h' a b hgo hr hs2 hc2 ho2 => HS.out.push (w' := w') (v' := v') (h' := h') (a := a) (b := b) hgo hr hs2 hc2 ho2
          have HBE := Lib.hid HS.out.bel
          have hfi1 : (f : Int) ≤ (i : Int) := by omega
          have hfi2 : (i : Int) ≤ (s.size : Int) := by omega
          clear hpl h44 hro hc HS hfi
          by_cases hneg : index p.data.toList [58] < 0
          · have hm1 : index p.data.toList [58] = -1 := by have := index_ge p.data.toList [58]; omega
            have hcut := cut_miss _ hm1
            simp only [hm1] at hidx
            clear hneg hm1
            have hb0 := fun W => refBound_any p star W (by omega)
            have hpart : partL p.data.toList star = ((if (boundL p.data.toList star).1 < (boundL p.data.toList star).1 then (boundL p.data.toList star).1 else (boundL p.data.toList star).1, if (boundL p.data.toList star).1 < (boundL p.data.toList star).1 then (boundL p.data.toList star).1 else (boundL p.data.toList star).1), (boundL p.data.toList star).2 && (boundL p.data.toList star).2) := by
              unfold partL
              rw [hcut]
            rw [hpart] at HRO hrg
            generalize boundL p.data.toList star = x at hb0 HRO hrg
            obtain ⟨x, bx⟩ := x
            simp only [Int.lt_irrefl, if_false, Bool.and_self] at hb0 HRO hrg
            have hmx := fun ats ty W => run_max_int (P := Tryd.prog) ats ty x x W
            have hmn := fun ats ty W => run_min_int (P := Tryd.prog) ats ty x x W
            simp only [Int.lt_irrefl, if_false] at hmx hmn
            clear hpart hcut
            cases bx with
            | false =>
              simp only [Bool.false_eq_true, if_false] at HRO
              have hro := HRO.out
              subst hro
              clear hrg HPUSH HRO hmx hmn
              rcases hg with hd | ⟨hi', hd, hd2⟩
              all_goals
                go_wp2_with (first
                  | (go_at_call 26; refine (hidx _).mono ?_; rintro e w2 ⟨rfl, rfl⟩; clear hidx)
                  | (go_at_call 27; refine (hb0 _).mono ?_; rintro e w3 ⟨rfl, rfl⟩)
                  | fail)
                go_ret2
                exact ⟨_, none, rfl, Sl.nil _ _ _, HBE.out⟩
            | true =>
              simp only [if_true] at HRO
              have HRG := Lib.hid hrg
              clear hrg
              rcases hg with hd | ⟨hi', hd, hd2⟩
              all_goals
                go_wp2_with (first
                  | (go_at_call 26; refine (hidx _).mono ?_; rintro e w2 ⟨rfl, rfl⟩; clear hidx)
                  | (go_at_call 27; refine (hb0 _).mono ?_; rintro e w3 ⟨rfl, rfl⟩)
                  | (at_builtin; refine wpList_append_sl rfl _ _ 24 rfl Tryd.underlying24 hi hz0 hz1 hz2 rfl (by decide) HSL.out rfl 1 1 rfl rfl ?_ ?_ ?_ ?_)
                  | fail)
                · simp [Value.oneCell']
                · unfold maxLen
                  omega
                · omega
                · intro v' h' w' r1 r2 r3
                  have HST := Lib.hid (HPUSH w' v' h' x x (by simpa using HRO.out) (by have := HRG.out; omega) (by simpa using r1) r2 r3)
                  clear r1 r2 r3 HPUSH
                  go_wp2
                  refine ⟨?_, by simp [intOf]; omega⟩
                  first | exact ⟨i + 1, i + 1, _, _, by omega, by go_num, by go_num, HST⟩ | ((repeat apply Exists.intro); exact ⟨⟨i + 1, i + 1, _, _, by omega, by go_num, by go_num, HST⟩, rfl⟩)
          · obtain ⟨j, hj⟩ : ∃ j : Nat, index p.data.toList [58] = j := ⟨(index p.data.toList [58]).toNat, by omega⟩
            have hcut := cut_hit _ j hj
            simp only [hj] at hidx
            have hjp : j + 1 ≤ p.size := by
              have ho := index_room p.data.toList [58] (by omega)
              simp only [List.length_singleton] at ho
              omega
            obtain ⟨a, ha⟩ : ∃ a : ByteArray, p.extract 0 j = a := ⟨_, rfl⟩
            obtain ⟨b, hb⟩ : ∃ b : ByteArray, p.extract (j + 1) p.size = b := ⟨_, rfl⟩
            have hal : p.data.toList.take j = a.data.toList := by rw [← ha, Lib.extract_from_zero]
            have hbl : p.data.toList.drop (j + 1) = b.data.toList := by rw [← hb, Lib.extract_to_end]
            have has : a.size ≤ 1000 := by
              have h1 := lenB a
              have h2 := congrArg List.length hal
              rw [List.length_take] at h2
              omega
            have hbs : b.size ≤ 1000 := by
              have h1 := lenB b
              have h2 := congrArg List.length hbl
              rw [List.length_drop] at h2
              omega
            have hba := fun W => refBound_any a star W (by omega)
            have hbb := fun W => refBound_any b star W (by omega)
            have hpart : partL p.data.toList star = ((if (boundL b.data.toList star).1 < (boundL a.data.toList star).1 then (boundL b.data.toList star).1 else (boundL a.data.toList star).1, if (boundL a.data.toList star).1 < (boundL b.data.toList star).1 then (boundL b.data.toList star).1 else (boundL a.data.toList star).1), (boundL a.data.toList star).2 && (boundL b.data.toList star).2) := by
              unfold partL
              rw [hcut, hal, hbl]
            rw [hpart] at HRO hrg
            generalize boundL a.data.toList star = x at hba HRO hrg
            generalize boundL b.data.toList star = y at hbb HRO hrg
            obtain ⟨x, bx⟩ := x
            obtain ⟨y, by'⟩ := y
            simp only at hba hbb HRO hrg
            obtain ⟨lo, hlo⟩ : ∃ lo : Int, (if y < x then y else x) = lo := ⟨_, rfl⟩
            obtain ⟨up, hup⟩ : ∃ up : Int, (if x < y then y else x) = up := ⟨_, rfl⟩
            have hmx := fun ats ty W => run_max_int (P := Tryd.prog) ats ty x y W
            have hmn := fun ats ty W => run_min_int (P := Tryd.prog) ats ty x y W
            rw [hlo] at hmn HRO hrg
            rw [hup] at hmx HRO hrg
            clear hpart hcut hneg hj hal hbl hlo hup
            have hj0 : (0 : Int) ≤ (j : Int) := by omega
            cases bx with
            | false =>
              simp only [Bool.false_and, Bool.false_eq_true, if_false] at HRO
              have hro := HRO.out
              subst hro
              clear hrg HPUSH HRO hmx hmn
              rcases hg with hd | ⟨hi', hd, hd2⟩
              all_goals
                go_wp2_with (first
                  | (go_at_call 26; refine (hidx _).mono ?_; rintro e w2 ⟨rfl, rfl⟩; clear hidx)
                  | (go_at_call 27; with_reducible refine (hba _).mono ?_; rintro e w3 ⟨rfl, rfl⟩; clear hba)
                  | (go_at_call 27; with_reducible refine (hbb _).mono ?_; rintro e w3 ⟨rfl, rfl⟩; clear hbb)
                  | fail)
                go_ret2
                exact ⟨_, none, rfl, Sl.nil _ _ _, HBE.out⟩
            | true =>
              cases by' with
              | false =>
                simp only [Bool.and_false, Bool.false_eq_true, if_false] at HRO
                have hro := HRO.out
                subst hro
                clear hrg HPUSH HRO hmx hmn
                rcases hg with hd | ⟨hi', hd, hd2⟩
                all_goals
                  go_wp2_with (first
                    | (go_at_call 26; refine (hidx _).mono ?_; rintro e w2 ⟨rfl, rfl⟩; clear hidx)
                    | (go_at_call 27; with_reducible refine (hba _).mono ?_; rintro e w3 ⟨rfl, rfl⟩; clear hba)
                    | (go_at_call 27; with_reducible refine (hbb _).mono ?_; rintro e w3 ⟨rfl, rfl⟩; clear hbb)
                    | fail)
                  go_ret2
                  exact ⟨_, none, rfl, Sl.nil _ _ _, HBE.out⟩
              | true =>
                simp only [Bool.and_self, if_true] at HRO
                have HRG := Lib.hid hrg
                clear hrg
                rcases hg with hd | ⟨hi', hd, hd2⟩
                all_goals
                  go_wp2_with (first
                    | (go_at_call 26; refine (hidx _).mono ?_; rintro e w2 ⟨rfl, rfl⟩; clear hidx)
                    | (go_at_call 27; with_reducible refine (hba _).mono ?_; rintro e w3 ⟨rfl, rfl⟩; clear hba)
                    | (go_at_call 27; with_reducible refine (hbb _).mono ?_; rintro e w3 ⟨rfl, rfl⟩; clear hbb)
                    | (at_builtin; refine wpList_append_sl rfl _ _ 24 rfl Tryd.underlying24 hi hz0 hz1 hz2 rfl (by decide) HSL.out rfl 1 1 rfl rfl ?_ ?_ ?_ ?_)
                    | fail)
                  · simp [Value.oneCell']
                  · unfold maxLen
                    omega
                  · omega
                  · intro v' h' w' r1 r2 r3
                    have HST := Lib.hid (HPUSH w' v' h' lo up (by simpa using HRO.out) (by have := HRG.out; omega) (by simpa using r1) r2 r3)
                    clear r1 r2 r3 HPUSH
                    go_wp2
                    refine ⟨?_, by simp [intOf]; omega⟩
                    first | exact ⟨i + 1, i + 1, _, _, by omega, by go_num, by go_num, HST⟩ | ((repeat apply Exists.intro); exact ⟨⟨i + 1, i + 1, _, _, by omega, by go_num, by go_num, HST⟩, rfl⟩)
      · have hi2 : i = s.size + 1 := by omega
        subst hi2
        have hfin := HS.out.fin (by rw [HLEN.out]; omega)
        subst hfin
        have hmg := fun W (hb : RowKit.Below wr.heap.size wr W) => refMerge_any W u6 acc.length acc rfl ((HS.out.sl.below hb).reads [] (by simp)) (by have := HS.out.len; omega) HS.out.rng
        go_wp2_with (first
          | (go_at_call 28; refine (hmg _ (RowKit.Below.refl _ _)).mono ?_; rintro e w3 ⟨v3, h3, rfl, hs3, hb3⟩; have HS3 := Lib.hid hs3; have HB3 := Lib.hid hb3; clear hmg hs3 hb3)
          | fail)
        go_ret2
        exact ⟨_, _, rfl, HS3.out, HS.out.bel.trans (HB3.out.mono HS.out.bel.size)⟩

end Go.Proofs.YtogmdfjgedekgaaDoor
