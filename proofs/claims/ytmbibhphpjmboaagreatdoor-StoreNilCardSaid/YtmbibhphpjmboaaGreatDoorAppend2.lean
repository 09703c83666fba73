/-
  The walk of the store's Append, further: the clock at its end, a mailbox without a number left.
-/
import Derived.Test.YtmbibhphpjmboaaGreatDoorAppend
import Derived.Deep.QuietTactic
import Derived.BigQuiet
import Derived.Deep.RegionLaw
import Derived.Deep.DrawnRows
import Derived.Deep.DeepCutAuto
import Derived.Deep.CutBlock
namespace Go.Proofs.YtmbibhphpjmboaaGreatDoor
open Go.Shelf Go.RowKit
attribute [local go_sem ↓] Go.wp_at_zero Go.wp_at_succ

theorem all_in {x : Acc} {l : List Int} (hwa : l.any (fun id => !hasBox x.boxes id) = false) : ∀ i ∈ l, i ∈ ids x.boxes := by
  intro i hi
  have h1 := (List.any_eq_false.1 hwa) i hi
  have h2 : hasBox x.boxes i = true := by simpa using h1
  exact (hasBox_iff x.boxes i).1 h2

set_option maxRecDepth 100000 in
set_option maxHeartbeats 4000000 in
theorem append_ends (at_ : Int) (w : World) (g : Nat) (q : Lies) (x : Acc) (is : List Int) (vb : Value) (Sb : List Nat) (ks : Texts) (vk : Value) (Sk : List Nat) (t : List UInt8) (h : AppIn w g q x is vb Sb ks vk Sk t) (hgood : ¬ (is = [] ∨ at_ < 0 ∨ 253402300799 < at_)) (hke : (keysF ks).2 = 0) (hwa : (rise is).any (fun id => !hasBox x.boxes id) = false) (hfu1 : ¬ x.cfg.maxMails ≤ (x.mails.length : Int)) (hfu2 : ¬ x.cfg.maxSize - x.octets < (t.length : Int)) (hen : x.cfg.maxMod ≤ x.clock) :
    Calls Tryz.prog 19 #[.pointer (some ⟨g, 0, none⟩), vb, vk, .int .i64 at_, .string ⟨t.toArray⟩] w (AppOut w g q (appendP headF x is ks at_ t)) := by
  have hres : appendP headF x is ks at_ t = (x, 0, 11) := by
    unfold appendP appendK
    rw [if_neg hgood, if_neg (by rw [hke]; simp), if_neg (by rw [hwa]; simp), if_neg (by omega), if_pos (by simp [Acc.ends, hen])]
  rw [hres]
  obtain ⟨Am, cm, hvm, _, _⟩ := h.at_.mails.form
  have hst := fun W (hb : Below w.heap.size w W) => h.at_.later hb
  have k11 := fun W hb => (hst W hb).cell11
  rw [hvm] at k11
  have k2 : ∀ W, Below w.heap.size w W → W.cell? ⟨g, 2, none⟩ = some (.int .i64 x.cfg.maxMails) := fun W hb => (hst W hb).cells 2
  have k4 : ∀ W, Below w.heap.size w W → W.cell? ⟨g, 4, none⟩ = some (.int .i64 x.cfg.maxSize) := fun W hb => (hst W hb).cells 4
  have k6 : ∀ W, Below w.heap.size w W → W.cell? ⟨g, 6, none⟩ = some (.int .i64 x.cfg.maxMod) := fun W hb => (hst W hb).cells 6
  have k9 : ∀ W, Below w.heap.size w W → W.cell? ⟨g, 9, none⟩ = some (.int .i64 x.clock) := fun W hb => (hst W hb).cell9
  have k15 : ∀ W, Below w.heap.size w W → W.cell? ⟨g, 15, none⟩ = some (.int .i64 x.octets) := fun W hb => (hst W hb).cell15
  have hsz := h.fit.cfg.size
  have hoc := h.fit.octets
  have hoc1 : 0 ≤ x.octets := by
    rw [hoc.1]
    exact sizeM_nonneg _
  have hoc2 := hoc.2
  have gw : IntKind.i64.wrap (x.cfg.maxSize - x.octets) = x.cfg.maxSize - x.octets := IntWalk.i64_in _ (by omega)
  obtain ⟨nm, hnm⟩ : ∃ nm, x.mails.length = nm := ⟨_, rfl⟩
  rw [hnm] at k11
  have K11 := Lib.hid k11
  have K2 := Lib.hid k2
  have K4 := Lib.hid k4
  have K6 := Lib.hid k6
  have K9 := Lib.hid k9
  have K15 := Lib.hid k15
  clear hst k11 k2 k4 k6 k9 k15 hsz hoc hvm
  obtain ⟨A, cap, hvb, _, _⟩ := h.boxes.form
  have hgn : is.length ≠ 0 := fun h0 => hgood (.inl (List.eq_nil_of_length_eq_zero h0))
  have hn0 : ((is.length : Int) == 0) = false := by simpa using hgn
  have hg1 : ¬ at_ < 0 := fun h0 => hgood (.inr (.inl h0))
  have hg2 : ¬ 253402300799 < at_ := fun h0 => hgood (.inr (.inr h0))
  have hkc := h.kc
  have hwc := h.wc
  rw [hvb] at hwc ⊢
  have H := Lib.hid h
  clear hvb hgood hgn h
  rw [hwa] at hwc
  rw [hke] at hkc
  have HWC := Lib.hid hwc
  rw [hnm] at hfu1
  clear hres
  clear hwa hwc hnm
  go_enter Tryz.func19, Tryz.ntmps19
  go_wp2_with (first
    | (go_at_call 51; refine hkc.mono ?_; rintro e w2 ⟨Ak, ck, hhk, rfl, hsk, hbk, hfk⟩; have HSK := Lib.hid hsk; have HBK := Lib.hid hbk; have HFK := Lib.hid hfk; have hwt := HWC.out w2 hbk; clear hkc hsk hbk hfk)
    | (go_at_call 52; refine hwt.mono ?_; rintro e w3 ⟨v3, h3, rfl, hs3, ho3, hb3⟩; clear hwt; obtain ⟨A3, p3, rfl, _, _⟩ := hs3.form; have hbb := below_then HBK.out hb3; have c11 := K11.out w3 hbb; have c2 := K2.out w3 hbb; have c4 := K4.out w3 hbb; have c15 := K15.out w3 hbb; have c6 := K6.out w3 hbb; have c9 := K9.out w3 hbb; have HB3 := Lib.hid hbb; have HS3 := Lib.hid hs3; have HO3 := Lib.hid ho3; clear hs3 ho3 hb3 hbb)
    | fail)
  go_quiet (fail)
  go_wp2_with fail
  go_quiet (fail)
  go_wp2_with (first
    | (go_at_call 53; refine (ends_any g x.clock x.cfg.maxMod _ ((cell_heap (w := w3) (by rfl) _).trans c9) ((cell_heap (w := w3) (by rfl) _).trans c6)).mono ?_; rintro e w4 ⟨rfl, ne, rfl⟩)
    | fail)
  go_ret2
  exact ⟨rfl, q, (Turned.of_below H.out.at_ HB3.out).then_below (below_drewN' (Below.refl _ _) _)⟩

set_option maxRecDepth 100000 in
set_option maxHeartbeats 4000000 in
theorem append_spent (at_ : Int) (w : World) (g : Nat) (q : Lies) (x : Acc) (is : List Int) (vb : Value) (Sb : List Nat) (ks : Texts) (vk : Value) (Sk : List Nat) (t : List UInt8) (h : AppIn w g q x is vb Sb ks vk Sk t) (hgood : ¬ (is = [] ∨ at_ < 0 ∨ 253402300799 < at_)) (hke : (keysF ks).2 = 0) (hwa : (rise is).any (fun id => !hasBox x.boxes id) = false) (hfu1 : ¬ x.cfg.maxMails ≤ (x.mails.length : Int)) (hfu2 : ¬ x.cfg.maxSize - x.octets < (t.length : Int)) (hen : ¬ x.cfg.maxMod ≤ x.clock) (hsp : (rise is).any x.spent = true) :
    Calls Tryz.prog 19 #[.pointer (some ⟨g, 0, none⟩), vb, vk, .int .i64 at_, .string ⟨t.toArray⟩] w (AppOut w g q (appendP headF x is ks at_ t)) := by
  have hres : appendP headF x is ks at_ t = (x, 0, 11) := by
    unfold appendP appendK
    rw [if_neg hgood, if_neg (by rw [hke]; simp), if_neg (by rw [hwa]; simp), if_neg (by omega), if_pos (by simp [hsp])]
  rw [hres]
  obtain ⟨Am, cm, hvm, _, _⟩ := h.at_.mails.form
  have hst := fun W (hb : Below w.heap.size w W) => h.at_.later hb
  have k11 := fun W hb => (hst W hb).cell11
  rw [hvm] at k11
  have k2 : ∀ W, Below w.heap.size w W → W.cell? ⟨g, 2, none⟩ = some (.int .i64 x.cfg.maxMails) := fun W hb => (hst W hb).cells 2
  have k4 : ∀ W, Below w.heap.size w W → W.cell? ⟨g, 4, none⟩ = some (.int .i64 x.cfg.maxSize) := fun W hb => (hst W hb).cells 4
  have k6 : ∀ W, Below w.heap.size w W → W.cell? ⟨g, 6, none⟩ = some (.int .i64 x.cfg.maxMod) := fun W hb => (hst W hb).cells 6
  have k9 : ∀ W, Below w.heap.size w W → W.cell? ⟨g, 9, none⟩ = some (.int .i64 x.clock) := fun W hb => (hst W hb).cell9
  have k15 : ∀ W, Below w.heap.size w W → W.cell? ⟨g, 15, none⟩ = some (.int .i64 x.octets) := fun W hb => (hst W hb).cell15
  have hsz := h.fit.cfg.size
  have hoc := h.fit.octets
  have hoc1 : 0 ≤ x.octets := by
    rw [hoc.1]
    exact sizeM_nonneg _
  have hoc2 := hoc.2
  have gw : IntKind.i64.wrap (x.cfg.maxSize - x.octets) = x.cfg.maxSize - x.octets := IntWalk.i64_in _ (by omega)
  obtain ⟨nm, hnm⟩ : ∃ nm, x.mails.length = nm := ⟨_, rfl⟩
  rw [hnm] at k11
  have K11 := Lib.hid k11
  have K2 := Lib.hid k2
  have K4 := Lib.hid k4
  have K6 := Lib.hid k6
  have K9 := Lib.hid k9
  have K15 := Lib.hid k15
  clear hst k11 k2 k4 k6 k9 k15 hsz hoc hvm
  obtain ⟨A, cap, hvb, _, _⟩ := h.boxes.form
  have hgn : is.length ≠ 0 := fun h0 => hgood (.inl (List.eq_nil_of_length_eq_zero h0))
  have hn0 : ((is.length : Int) == 0) = false := by simpa using hgn
  have hg1 : ¬ at_ < 0 := fun h0 => hgood (.inr (.inl h0))
  have hg2 : ¬ 253402300799 < at_ := fun h0 => hgood (.inr (.inr h0))
  have hkc := h.kc
  have hwc := h.wc
  rw [hvb] at hwc ⊢
  have H := Lib.hid h
  clear hvb hgood hgn h
  rw [hwa] at hwc
  rw [hke] at hkc
  have HWC := Lib.hid hwc
  rw [hnm] at hfu1
  clear hres
  have hsc := H.out.sc (all_in hwa)
  rw [hsp] at hsc
  clear hwa hwc hnm
  go_enter Tryz.func19, Tryz.ntmps19
  go_wp2_with (first
    | (go_at_call 51; refine hkc.mono ?_; rintro e w2 ⟨Ak, ck, hhk, rfl, hsk, hbk, hfk⟩; have HSK := Lib.hid hsk; have HBK := Lib.hid hbk; have HFK := Lib.hid hfk; have hwt := HWC.out w2 hbk; clear hkc hsk hbk hfk)
    | (go_at_call 52; refine hwt.mono ?_; rintro e w3 ⟨v3, h3, rfl, hs3, ho3, hb3⟩; clear hwt; obtain ⟨A3, p3, rfl, _, _⟩ := hs3.form; have hbb := below_then HBK.out hb3; have c11 := K11.out w3 hbb; have c2 := K2.out w3 hbb; have c4 := K4.out w3 hbb; have c15 := K15.out w3 hbb; have c6 := K6.out w3 hbb; have c9 := K9.out w3 hbb; have HB3 := Lib.hid hbb; have HS3 := Lib.hid hs3; have HO3 := Lib.hid ho3; clear hs3 ho3 hb3 hbb)
    | fail)
  go_quiet (fail)
  go_wp2_with fail
  go_quiet (fail)
  go_wp2_with (first
    | (go_at_call 53; refine (ends_any g x.clock x.cfg.maxMod _ ((cell_heap (w := w3) (by rfl) _).trans c9) ((cell_heap (w := w3) (by rfl) _).trans c6)).mono ?_; rintro e w4 ⟨rfl, ne, rfl⟩)
    | (go_at_call 54; refine (hsc _ (below_drewN' HB3.out _) _ h3 (HS3.out.heap (by rfl))).mono ?_; rintro e w5 ⟨rfl, hb5⟩; have HB5 := Lib.hid hb5)
    | fail)
  go_ret2
  exact ⟨rfl, q, (((Turned.of_below H.out.at_ HB3.out).then_below (below_drewN' (Below.refl _ _) _))).then_below HB5.out⟩


end Go.Proofs.YtmbibhphpjmboaaGreatDoor
