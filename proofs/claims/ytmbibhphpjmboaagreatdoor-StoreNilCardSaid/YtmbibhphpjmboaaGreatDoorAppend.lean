/-
  The walk of the store's Append: what it hands back, and the account behind it, are appendP's.
-/
import Derived.Test.YtmbibhphpjmboaaGreatDoorAppendW
import Derived.Deep.QuietTactic
import Derived.BigQuiet
import Derived.Deep.RegionLaw
import Derived.Deep.DrawnRows
import Derived.Deep.DeepCutAuto
import Derived.Deep.CutBlock
namespace Go.Proofs.YtmbibhphpjmboaaGreatDoor
open Go.Shelf Go.RowKit
attribute [local go_sem ↓] Go.wp_at_zero Go.wp_at_succ

theorem Try.infoMail : (Tryz.prog.info? 40).map (fun i => (i.zero, i.size, i.bytes)) = some (some (.agg #[.int .i64 0, .int .i64 0, .string ⟨#[]⟩, .int .i64 0, .slice none 0 0, .slice none 0 0, .int .i64 0, .int .i64 0]), 8, 104) := by kernel_rfl

theorem below_drewN' {B : Nat} {w w' : World} (h : Below B w w') (n : Nat) : Below B w (w'.drewN n) := ⟨h.os, h.tape, h.output, h.size, h.block⟩
/-- What is asked ahead of a step, and what it says. -/
structure AppIn (w : World) (g : Nat) (q : Lies) (x : Acc) (is : List Int) (vb : Value) (Sb : List Nat) (ks : Texts) (vk : Value) (Sk : List Nat) (t : List UInt8) : Prop where
  at_ : StoreAt w g q x
  fit : Fit x
  boxes : RdS w Sb 1 vb is.length (is.map encI)
  nb : is.length ≤ 4294967296
  keys : RdS w Sk 1 vk ks.length (ks.map encStr)
  nk : ks.length ≤ 1099511627776
  short : Short ks
  text : t.length ≤ 1099511627776
def AppOut (w : World) (g : Nat) (q : Lies) (r : Acc × Int × Int) (e : Ending) (w' : World) : Prop := e = .returned (.tuple #[.int .i64 r.2.1, .int .i64 r.2.2]) ∧ ∃ q', Turned w w' g q r.1 q'

section
variable {w : World} {g : Nat} {q : Lies} {x : Acc} {is : List Int} {vb : Value} {Sb : List Nat} {ks : Texts} {vk : Value} {Sk : List Nat} {t : List UInt8}
theorem AppIn.kc (h : AppIn w g q x is vb Sb ks vk Sk t) : Calls Tryz.prog 51 #[vk] w fun e w' => ∃ A cap hh, e = .returned (.tuple #[.slice A (keysF ks).1.length cap, .int .i64 (keysF ks).2]) ∧ Sl w' 9 1 (.slice A (keysF ks).1.length cap) hh (keysF ks).1.length ((keysF ks).1.map encStr) ∧ Below w.heap.size w w' ∧ ∀ b, hh = some b → w.heap.size ≤ b :=
  keys_any w vk ks.length ks rfl h.nk (h.keys.sub (fun _ _ _ hm => by cases hm)) h.short
theorem AppIn.nbox (h : AppIn w g q x is vb Sb ks vk Sk t) : x.boxes.length ≤ 1099511627776 := by
  have h1 := h.fit.nb
  have h2 := h.fit.clock
  have h3 := h.fit.cfg.mod
  omega
theorem AppIn.wc (h : AppIn w g q x is vb Sb ks vk Sk t) (W : World) (hb : Below w.heap.size w W) : Calls Tryz.prog 52 #[.pointer (some ⟨g, 0, none⟩), vb] W fun e w' => ∃ v' hh, e = .returned (.tuple #[v', .bool (!(rise is).any (fun id => !hasBox x.boxes id))]) ∧ Sl w' 3 1 v' hh (rise is).length ((rise is).map encI) ∧ (∀ b, hh = some b → W.heap.size ≤ b) ∧ Below W.heap.size W w' :=
  wanted_any W g q x (h.at_.later hb) h.nbox is vb Sb (h.boxes.below hb) (Nat.le_trans h.nb (by decide))
theorem AppIn.sc (h : AppIn w g q x is vb Sb ks vk Sk t) (hall : ∀ i ∈ rise is, i ∈ ids x.boxes) (W : World) (hb : Below w.heap.size w W) (v : Value) (hh : Option Nat) (hs : Sl W 3 1 v hh (rise is).length ((rise is).map encI)) :
    Calls Tryz.prog 54 #[v, .func (.func 55) #[.pointer (some ⟨g, 0, none⟩)] #[]] W fun e w' => e = .returned (.bool ((rise is).any x.spent)) ∧ Below W.heap.size W w' := by
  have eg : ∀ args W, (callFunc 55 args).run Tryz.prog W = .ok (.enter 55 args) W := enters_of Tryz.func55 (by kernel_rfl) rfl
  refine hasJ_any v [] (rise is) x.spent _ _ eg W (hs.reads [] (by simp)) (by have := rise_length is; have := h.nb; omega) (fun W2 hb2 id hid => ?_)
  refine (spent_any W2 g q x (h.at_.later (below_then hb hb2)) h.nbox id (hall id hid)).mono ?_
  rintro e w' ⟨he, hb3⟩
  exact ⟨he, below_then hb2 hb3⟩
end

set_option maxRecDepth 100000 in
set_option maxHeartbeats 4000000 in
theorem append_bad (at_ : Int) (w : World) (g : Nat) (q : Lies) (x : Acc) (is : List Int) (vb : Value) (Sb : List Nat) (ks : Texts) (vk : Value) (Sk : List Nat) (t : List UInt8) (h : AppIn w g q x is vb Sb ks vk Sk t) (hbad : is = [] ∨ at_ < 0 ∨ 253402300799 < at_) :
    Calls Tryz.prog 19 #[.pointer (some ⟨g, 0, none⟩), vb, vk, .int .i64 at_, .string ⟨t.toArray⟩] w (AppOut w g q (appendP headF x is ks at_ t)) := by
  have hres : appendP headF x is ks at_ t = (x, 0, 1) := by
    unfold appendP appendK
    rw [if_pos hbad]
  rw [hres]
  have hfin : ∀ e, e = .returned (.tuple #[.int .i64 0, .int .i64 1]) → AppOut w g q (x, 0, 1) e w := fun e he => ⟨he, q, Turned.refl h.at_⟩
  obtain ⟨A, cap, rfl, _, _⟩ := h.boxes.form
  obtain ⟨n, hn⟩ : ∃ n, is.length = n := ⟨_, rfl⟩
  rw [hn]
  have hbad2 : n = 0 ∨ (¬ n = 0 ∧ at_ < 0) ∨ (¬ n = 0 ∧ ¬ at_ < 0 ∧ 253402300799 < at_) := by
    by_cases h0 : n = 0
    · exact .inl h0
    · rcases hbad with h1 | h1 | h1
      · exact absurd (by rw [← hn, h1]; rfl) h0
      · exact .inr (.inl ⟨h0, h1⟩)
      · by_cases h2 : at_ < 0
        · exact .inr (.inl ⟨h0, h2⟩)
        · exact .inr (.inr ⟨h0, h2, h1⟩)
  have HFI := Lib.hid hfin
  clear hres hbad h hfin hn
  rcases hbad2 with rfl | ⟨h0, h1⟩ | ⟨h0, h2, h1⟩
  · go_enter Tryz.func19, Tryz.ntmps19
    go_wp2
    go_ret2
    exact HFI.out _ rfl
  · have hn0 : ((n : Int) == 0) = false := by simpa using h0
    go_enter Tryz.func19, Tryz.ntmps19
    go_wp2
    go_ret2
    exact HFI.out _ rfl
  · have hn0 : ((n : Int) == 0) = false := by simpa using h0
    go_enter Tryz.func19, Tryz.ntmps19
    go_wp2
    go_ret2
    exact HFI.out _ rfl

set_option maxRecDepth 100000 in
set_option maxHeartbeats 4000000 in
theorem append_keys (at_ : Int) (w : World) (g : Nat) (q : Lies) (x : Acc) (is : List Int) (vb : Value) (Sb : List Nat) (ks : Texts) (vk : Value) (Sk : List Nat) (t : List UInt8) (h : AppIn w g q x is vb Sb ks vk Sk t) (hgood : ¬ (is = [] ∨ at_ < 0 ∨ 253402300799 < at_)) (hke : (keysF ks).2 ≠ 0) :
    Calls Tryz.prog 19 #[.pointer (some ⟨g, 0, none⟩), vb, vk, .int .i64 at_, .string ⟨t.toArray⟩] w (AppOut w g q (appendP headF x is ks at_ t)) := by
  have hres : appendP headF x is ks at_ t = (x, 0, (keysF ks).2) := by
    unfold appendP appendK
    rw [if_neg hgood, if_pos hke]
  rw [hres]
  obtain ⟨A, cap, hvb, _, _⟩ := h.boxes.form
  have hgn : is.length ≠ 0 := fun h0 => hgood (.inl (List.eq_nil_of_length_eq_zero h0))
  have hn0 : ((is.length : Int) == 0) = false := by simpa using hgn
  have hg1 : ¬ at_ < 0 := fun h0 => hgood (.inr (.inl h0))
  have hg2 : ¬ 253402300799 < at_ := fun h0 => hgood (.inr (.inr h0))
  have hkc := h.kc
  rw [hvb]
  have H := Lib.hid h
  clear hvb hgood hgn h
  generalize keysF ks = kf at hkc hke ⊢
  obtain ⟨kl, ke⟩ := kf
  simp only at hkc hke ⊢
  have hq : (ke == 0) = false := by simpa using hke
  clear hres
  go_enter Tryz.func19, Tryz.ntmps19
  go_wp2_with (first
    | (go_at_call 51; refine hkc.mono ?_; rintro e w2 ⟨Ak, ck, hhk, rfl, _, hbk, _⟩; have HBK := Lib.hid hbk; clear hkc hbk)
    | fail)
  go_ret2
  exact ⟨rfl, q, Turned.of_below H.out.at_ HBK.out⟩

set_option maxRecDepth 100000 in
set_option maxHeartbeats 4000000 in
theorem append_name (at_ : Int) (w : World) (g : Nat) (q : Lies) (x : Acc) (is : List Int) (vb : Value) (Sb : List Nat) (ks : Texts) (vk : Value) (Sk : List Nat) (t : List UInt8) (h : AppIn w g q x is vb Sb ks vk Sk t) (hgood : ¬ (is = [] ∨ at_ < 0 ∨ 253402300799 < at_)) (hke : (keysF ks).2 = 0) (hwa : (rise is).any (fun id => !hasBox x.boxes id) = true) :
    Calls Tryz.prog 19 #[.pointer (some ⟨g, 0, none⟩), vb, vk, .int .i64 at_, .string ⟨t.toArray⟩] w (AppOut w g q (appendP headF x is ks at_ t)) := by
  have hres : appendP headF x is ks at_ t = (x, 0, 6) := by
    unfold appendP appendK
    rw [if_neg hgood, if_neg (by rw [hke]; simp), if_pos hwa]
  rw [hres]
  obtain ⟨A, cap, hvb, _, _⟩ := h.boxes.form
  have hgn : is.length ≠ 0 := fun h0 => hgood (.inl (List.eq_nil_of_length_eq_zero h0))
  have hn0 : ((is.length : Int) == 0) = false := by simpa using hgn
  have hg1 : ¬ at_ < 0 := fun h0 => hgood (.inr (.inl h0))
  have hg2 : ¬ 253402300799 < at_ := fun h0 => hgood (.inr (.inr h0))
  have hkc := h.kc
  have hwc := h.wc
  rw [hvb] at hwc ⊢
  have H := Lib.hid h
  clear hvb hgood hgn h
  rw [hwa] at hwc
  rw [hke] at hkc
  have HWC := Lib.hid hwc
  clear hres hwa hwc
  go_enter Tryz.func19, Tryz.ntmps19
  go_wp2_with (first
    | (go_at_call 51; refine hkc.mono ?_; rintro e w2 ⟨Ak, ck, hhk, rfl, hsk, hbk, hfk⟩; have HSK := Lib.hid hsk; have HBK := Lib.hid hbk; have HFK := Lib.hid hfk; have hwt := HWC.out w2 hbk; clear hkc hsk hbk hfk)
    | (go_at_call 52; refine hwt.mono ?_; rintro e w3 ⟨v3, h3, rfl, hs3, ho3, hb3⟩; clear hwt; obtain ⟨A3, p3, rfl, _, _⟩ := hs3.form; have HB3 := Lib.hid (below_then HBK.out hb3); clear hs3 ho3 hb3)
    | fail)
  go_ret2
  exact ⟨rfl, q, Turned.of_below H.out.at_ HB3.out⟩

set_option maxRecDepth 100000 in
set_option maxHeartbeats 4000000 in
theorem append_full1 (at_ : Int) (w : World) (g : Nat) (q : Lies) (x : Acc) (is : List Int) (vb : Value) (Sb : List Nat) (ks : Texts) (vk : Value) (Sk : List Nat) (t : List UInt8) (h : AppIn w g q x is vb Sb ks vk Sk t) (hgood : ¬ (is = [] ∨ at_ < 0 ∨ 253402300799 < at_)) (hke : (keysF ks).2 = 0) (hwa : (rise is).any (fun id => !hasBox x.boxes id) = false) (hfu : x.cfg.maxMails ≤ (x.mails.length : Int)) :
    Calls Tryz.prog 19 #[.pointer (some ⟨g, 0, none⟩), vb, vk, .int .i64 at_, .string ⟨t.toArray⟩] w (AppOut w g q (appendP headF x is ks at_ t)) := by
  have hres : appendP headF x is ks at_ t = (x, 0, 8) := by
    unfold appendP appendK
    rw [if_neg hgood, if_neg (by rw [hke]; simp), if_neg (by rw [hwa]; simp), if_pos (.inl hfu)]
  rw [hres]
  obtain ⟨Am, cm, hvm, _, _⟩ := h.at_.mails.form
  have hst := fun W (hb : Below w.heap.size w W) => h.at_.later hb
  have k11 := fun W hb => (hst W hb).cell11
  rw [hvm] at k11
  have k2 : ∀ W, Below w.heap.size w W → W.cell? ⟨g, 2, none⟩ = some (.int .i64 x.cfg.maxMails) := fun W hb => (hst W hb).cells 2
  have k4 : ∀ W, Below w.heap.size w W → W.cell? ⟨g, 4, none⟩ = some (.int .i64 x.cfg.maxSize) := fun W hb => (hst W hb).cells 4
  have k6 : ∀ W, Below w.heap.size w W → W.cell? ⟨g, 6, none⟩ = some (.int .i64 x.cfg.maxMod) := fun W hb => (hst W hb).cells 6
  have k9 : ∀ W, Below w.heap.size w W → W.cell? ⟨g, 9, none⟩ = some (.int .i64 x.clock) := fun W hb => (hst W hb).cell9
  have k15 : ∀ W, Below w.heap.size w W → W.cell? ⟨g, 15, none⟩ = some (.int .i64 x.octets) := fun W hb => (hst W hb).cell15
  have hsz := h.fit.cfg.size
  have hoc := h.fit.octets
  have hoc1 : 0 ≤ x.octets := by
    rw [hoc.1]
    exact sizeM_nonneg _
  have hoc2 := hoc.2
  have gw : IntKind.i64.wrap (x.cfg.maxSize - x.octets) = x.cfg.maxSize - x.octets := IntWalk.i64_in _ (by omega)
  obtain ⟨nm, hnm⟩ : ∃ nm, x.mails.length = nm := ⟨_, rfl⟩
  rw [hnm] at k11
  have K11 := Lib.hid k11
  have K2 := Lib.hid k2
  have K4 := Lib.hid k4
  have K6 := Lib.hid k6
  have K9 := Lib.hid k9
  have K15 := Lib.hid k15
  clear hst k11 k2 k4 k6 k9 k15 hsz hoc hvm
  obtain ⟨A, cap, hvb, _, _⟩ := h.boxes.form
  have hgn : is.length ≠ 0 := fun h0 => hgood (.inl (List.eq_nil_of_length_eq_zero h0))
  have hn0 : ((is.length : Int) == 0) = false := by simpa using hgn
  have hg1 : ¬ at_ < 0 := fun h0 => hgood (.inr (.inl h0))
  have hg2 : ¬ 253402300799 < at_ := fun h0 => hgood (.inr (.inr h0))
  have hkc := h.kc
  have hwc := h.wc
  rw [hvb] at hwc ⊢
  have H := Lib.hid h
  clear hvb hgood hgn h
  rw [hwa] at hwc
  rw [hke] at hkc
  have HWC := Lib.hid hwc
  rw [hnm] at hfu
  clear hres hwa hwc hnm
  go_enter Tryz.func19, Tryz.ntmps19
  go_wp2_with (first
    | (go_at_call 51; refine hkc.mono ?_; rintro e w2 ⟨Ak, ck, hhk, rfl, hsk, hbk, hfk⟩; have HSK := Lib.hid hsk; have HBK := Lib.hid hbk; have HFK := Lib.hid hfk; have hwt := HWC.out w2 hbk; clear hkc hsk hbk hfk)
    | (go_at_call 52; refine hwt.mono ?_; rintro e w3 ⟨v3, h3, rfl, hs3, ho3, hb3⟩; clear hwt; obtain ⟨A3, p3, rfl, _, _⟩ := hs3.form; have hbb := below_then HBK.out hb3; have c11 := K11.out w3 hbb; have c2 := K2.out w3 hbb; have c4 := K4.out w3 hbb; have c15 := K15.out w3 hbb; have c6 := K6.out w3 hbb; have c9 := K9.out w3 hbb; have HB3 := Lib.hid hbb; have HS3 := Lib.hid hs3; have HO3 := Lib.hid ho3; clear hs3 ho3 hb3 hbb)
    | fail)
  go_quiet (fail)
  go_wp2_with fail
  go_ret2
  exact ⟨rfl, q, (Turned.of_below H.out.at_ HB3.out).then_below (below_drewN' (Below.refl _ _) _)⟩

set_option maxRecDepth 100000 in
set_option maxHeartbeats 4000000 in
theorem append_full2 (at_ : Int) (w : World) (g : Nat) (q : Lies) (x : Acc) (is : List Int) (vb : Value) (Sb : List Nat) (ks : Texts) (vk : Value) (Sk : List Nat) (t : List UInt8) (h : AppIn w g q x is vb Sb ks vk Sk t) (hgood : ¬ (is = [] ∨ at_ < 0 ∨ 253402300799 < at_)) (hke : (keysF ks).2 = 0) (hwa : (rise is).any (fun id => !hasBox x.boxes id) = false) (hfu1 : ¬ x.cfg.maxMails ≤ (x.mails.length : Int)) (hfu : x.cfg.maxSize - x.octets < (t.length : Int)) :
    Calls Tryz.prog 19 #[.pointer (some ⟨g, 0, none⟩), vb, vk, .int .i64 at_, .string ⟨t.toArray⟩] w (AppOut w g q (appendP headF x is ks at_ t)) := by
  have hres : appendP headF x is ks at_ t = (x, 0, 8) := by
    unfold appendP appendK
    rw [if_neg hgood, if_neg (by rw [hke]; simp), if_neg (by rw [hwa]; simp), if_pos (.inr hfu)]
  rw [hres]
  obtain ⟨Am, cm, hvm, _, _⟩ := h.at_.mails.form
  have hst := fun W (hb : Below w.heap.size w W) => h.at_.later hb
  have k11 := fun W hb => (hst W hb).cell11
  rw [hvm] at k11
  have k2 : ∀ W, Below w.heap.size w W → W.cell? ⟨g, 2, none⟩ = some (.int .i64 x.cfg.maxMails) := fun W hb => (hst W hb).cells 2
  have k4 : ∀ W, Below w.heap.size w W → W.cell? ⟨g, 4, none⟩ = some (.int .i64 x.cfg.maxSize) := fun W hb => (hst W hb).cells 4
  have k6 : ∀ W, Below w.heap.size w W → W.cell? ⟨g, 6, none⟩ = some (.int .i64 x.cfg.maxMod) := fun W hb => (hst W hb).cells 6
  have k9 : ∀ W, Below w.heap.size w W → W.cell? ⟨g, 9, none⟩ = some (.int .i64 x.clock) := fun W hb => (hst W hb).cell9
  have k15 : ∀ W, Below w.heap.size w W → W.cell? ⟨g, 15, none⟩ = some (.int .i64 x.octets) := fun W hb => (hst W hb).cell15
  have hsz := h.fit.cfg.size
  have hoc := h.fit.octets
  have hoc1 : 0 ≤ x.octets := by
    rw [hoc.1]
    exact sizeM_nonneg _
  have hoc2 := hoc.2
  have gw : IntKind.i64.wrap (x.cfg.maxSize - x.octets) = x.cfg.maxSize - x.octets := IntWalk.i64_in _ (by omega)
  obtain ⟨nm, hnm⟩ : ∃ nm, x.mails.length = nm := ⟨_, rfl⟩
  rw [hnm] at k11
  have K11 := Lib.hid k11
  have K2 := Lib.hid k2
  have K4 := Lib.hid k4
  have K6 := Lib.hid k6
  have K9 := Lib.hid k9
  have K15 := Lib.hid k15
  clear hst k11 k2 k4 k6 k9 k15 hsz hoc hvm
  obtain ⟨A, cap, hvb, _, _⟩ := h.boxes.form
  have hgn : is.length ≠ 0 := fun h0 => hgood (.inl (List.eq_nil_of_length_eq_zero h0))
  have hn0 : ((is.length : Int) == 0) = false := by simpa using hgn
  have hg1 : ¬ at_ < 0 := fun h0 => hgood (.inr (.inl h0))
  have hg2 : ¬ 253402300799 < at_ := fun h0 => hgood (.inr (.inr h0))
  have hkc := h.kc
  have hwc := h.wc
  rw [hvb] at hwc ⊢
  have H := Lib.hid h
  clear hvb hgood hgn h
  rw [hwa] at hwc
  rw [hke] at hkc
  have HWC := Lib.hid hwc
  rw [hnm] at hfu1
  clear hres hwa hwc hnm
  go_enter Tryz.func19, Tryz.ntmps19
  go_wp2_with (first
    | (go_at_call 51; refine hkc.mono ?_; rintro e w2 ⟨Ak, ck, hhk, rfl, hsk, hbk, hfk⟩; have HSK := Lib.hid hsk; have HBK := Lib.hid hbk; have HFK := Lib.hid hfk; have hwt := HWC.out w2 hbk; clear hkc hsk hbk hfk)
    | (go_at_call 52; refine hwt.mono ?_; rintro e w3 ⟨v3, h3, rfl, hs3, ho3, hb3⟩; clear hwt; obtain ⟨A3, p3, rfl, _, _⟩ := hs3.form; have hbb := below_then HBK.out hb3; have c11 := K11.out w3 hbb; have c2 := K2.out w3 hbb; have c4 := K4.out w3 hbb; have c15 := K15.out w3 hbb; have c6 := K6.out w3 hbb; have c9 := K9.out w3 hbb; have HB3 := Lib.hid hbb; have HS3 := Lib.hid hs3; have HO3 := Lib.hid ho3; clear hs3 ho3 hb3 hbb)
    | fail)
  go_quiet (fail)
  go_wp2_with fail
  go_quiet (fail)
  go_wp2_with fail
  go_ret2
  exact ⟨rfl, q, (Turned.of_below H.out.at_ HB3.out).then_below (below_drewN' (below_drewN' (Below.refl _ _) _) _)⟩


end Go.Proofs.YtmbibhphpjmboaaGreatDoor
