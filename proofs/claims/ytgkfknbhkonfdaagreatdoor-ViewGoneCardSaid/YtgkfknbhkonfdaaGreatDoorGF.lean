/-
  The walk of the store's Append: what it hands back, and the account behind it, are appendP's.
  The walk of the store's Append, further: the clock at its end, a mailbox without a number left.
  What Append's last region is shown over: the log's Add at an account, and behind the entries' append; a region of a function's code, picked out.
  The walk of the mailboxes that an email is in.
  The last drawn region of the store's Keys: what was turned, and the email, are told to the log.
  The walk of the store laws' own example; over whatever Append's contract says (AppendOk).
-/
import Derived.Test.YtgkfknbhkonfdaaGreatDoorGE
import Derived.Test.YtgkfknbhkonfdaaGreatDoorGD
import Derived.Test.YtgkfknbhkonfdaaGreatDoorGC
import Derived.Deep.QuietTactic
import Derived.BigQuiet
import Derived.Deep.RegionLaw
import Derived.Deep.DrawnRows
import Derived.Deep.DeepCutAuto
import Derived.Deep.CutBlock
namespace Go.Proofs.YtgkfknbhkonfdaaGreatDoor
open Go.Shelf Go.RowKit
attribute [local go_sem ↓] Go.wp_at_zero Go.wp_at_succ

theorem Try.infoMail : (Tryz.prog.info? 90).map (fun i => (i.zero, i.size, i.bytes)) = some (some (.agg #[.int .i64 0, .int .i64 0, .string ⟨#[]⟩, .int .i64 0, .slice none 0 0, .slice none 0 0, .int .i64 0, .int .i64 0]), 8, 104) := by kernel_rfl

theorem below_drewN' {B : Nat} {w w' : World} (h : Below B w w') (n : Nat) : Below B w (w'.drewN n) := ⟨h.os, h.tape, h.output, h.size, h.block⟩
/-- What is asked ahead of a step, and what it says. -/
structure AppIn (w : World) (g : Nat) (q : Lies) (x : Acc) (is : List Int) (vb : Value) (Sb : List Nat) (ks : Texts) (vk : Value) (Sk : List Nat) (t : List UInt8) : Prop where
  at_ : StoreAt w g q x
  fit : Fit x
  boxes : RdS w Sb 1 vb is.length (is.map encI)
  nb : is.length ≤ 4294967296
  keys : RdS w Sk 1 vk ks.length (ks.map encStr)
  nk : ks.length ≤ 1099511627776
  short : Short ks
  text : t.length ≤ 1099511627776
def AppOut (w : World) (g : Nat) (q : Lies) (r : Acc × Int × Int) (e : Ending) (w' : World) : Prop := e = .returned (.tuple #[.int .i64 r.2.1, .int .i64 r.2.2]) ∧ ∃ q', Turned w w' g q r.1 q'

section
variable {w : World} {g : Nat} {q : Lies} {x : Acc} {is : List Int} {vb : Value} {Sb : List Nat} {ks : Texts} {vk : Value} {Sk : List Nat} {t : List UInt8}
theorem AppIn.kc (h : AppIn w g q x is vb Sb ks vk Sk t) : Calls Tryz.prog 61 #[vk] w fun e w' => ∃ A cap hh, e = .returned (.tuple #[.slice A (keysF ks).1.length cap, .int .i64 (keysF ks).2]) ∧ Sl w' 9 1 (.slice A (keysF ks).1.length cap) hh (keysF ks).1.length ((keysF ks).1.map encStr) ∧ Below w.heap.size w w' ∧ ∀ b, hh = some b → w.heap.size ≤ b :=
  keys_any w vk ks.length ks rfl h.nk (h.keys.sub (fun _ _ _ hm => by cases hm)) h.short
theorem AppIn.nbox (h : AppIn w g q x is vb Sb ks vk Sk t) : x.boxes.length ≤ 1099511627776 := by
  have h1 := h.fit.nb
  have h2 := h.fit.clock
  have h3 := h.fit.cfg.mod
  omega
theorem AppIn.wc (h : AppIn w g q x is vb Sb ks vk Sk t) (W : World) (hb : Below w.heap.size w W) : Calls Tryz.prog 62 #[.pointer (some ⟨g, 0, none⟩), vb] W fun e w' => ∃ v' hh, e = .returned (.tuple #[v', .bool (!(rise is).any (fun id => !hasBox x.boxes id))]) ∧ Sl w' 3 1 v' hh (rise is).length ((rise is).map encI) ∧ (∀ b, hh = some b → W.heap.size ≤ b) ∧ Below W.heap.size W w' :=
  wanted_any W g q x (h.at_.later hb) h.nbox is vb Sb (h.boxes.below hb) (Nat.le_trans h.nb (by decide))
theorem AppIn.sc (h : AppIn w g q x is vb Sb ks vk Sk t) (hall : ∀ i ∈ rise is, i ∈ ids x.boxes) (W : World) (hb : Below w.heap.size w W) (v : Value) (hh : Option Nat) (hs : Sl W 3 1 v hh (rise is).length ((rise is).map encI)) :
    Calls Tryz.prog 64 #[v, .func (.func 65) #[.pointer (some ⟨g, 0, none⟩)] #[]] W fun e w' => e = .returned (.bool ((rise is).any x.spent)) ∧ Below W.heap.size W w' := by
  have eg : ∀ args W, (callFunc 65 args).run Tryz.prog W = .ok (.enter 65 args) W := enters_of Tryz.func65 (by kernel_rfl) rfl
  refine hasJ_any v [] (rise is) x.spent _ _ eg W (hs.reads [] (by simp)) (by have := rise_length is; have := h.nb; omega) (fun W2 hb2 id hid => ?_)
  refine (spent_any W2 g q x (h.at_.later (below_then hb hb2)) h.nbox id (hall id hid)).mono ?_
  rintro e w' ⟨he, hb3⟩
  exact ⟨he, below_then hb2 hb3⟩
end

set_option maxRecDepth 100000 in
set_option maxHeartbeats 4000000 in
theorem append_bad (at_ : Int) (w : World) (g : Nat) (q : Lies) (x : Acc) (is : List Int) (vb : Value) (Sb : List Nat) (ks : Texts) (vk : Value) (Sk : List Nat) (t : List UInt8) (h : AppIn w g q x is vb Sb ks vk Sk t) (hbad : is = [] ∨ at_ < 0 ∨ 253402300799 < at_) :
    Calls Tryz.prog 20 #[.pointer (some ⟨g, 0, none⟩), vb, vk, .int .i64 at_, .string ⟨t.toArray⟩] w (AppOut w g q (appendP headF x is ks at_ t)) := by
  have hres : appendP headF x is ks at_ t = (x, 0, 1) := by
    unfold appendP appendK
    rw [if_pos hbad]
  rw [hres]
  have hfin : ∀ e, e = .returned (.tuple #[.int .i64 0, .int .i64 1]) → AppOut w g q (x, 0, 1) e w := fun e he => ⟨he, q, Turned.refl h.at_⟩
  obtain ⟨A, cap, rfl, _, _⟩ := h.boxes.form
  obtain ⟨n, hn⟩ : ∃ n, is.length = n := ⟨_, rfl⟩
  rw [hn]
  have hbad2 : n = 0 ∨ (¬ n = 0 ∧ at_ < 0) ∨ (¬ n = 0 ∧ ¬ at_ < 0 ∧ 253402300799 < at_) := by
    by_cases h0 : n = 0
    · exact .inl h0
    · rcases hbad with h1 | h1 | h1
      · exact absurd (by rw [← hn, h1]; rfl) h0
      · exact .inr (.inl ⟨h0, h1⟩)
      · by_cases h2 : at_ < 0
        · exact .inr (.inl ⟨h0, h2⟩)
        · exact .inr (.inr ⟨h0, h2, h1⟩)
  have HFI := Lib.hid hfin
  clear hres hbad h hfin hn
  rcases hbad2 with rfl | ⟨h0, h1⟩ | ⟨h0, h2, h1⟩
  · go_enter Tryz.func20, Tryz.ntmps20
    go_wp2
    go_ret2
    exact HFI.out _ rfl
  · have hn0 : ((n : Int) == 0) = false := by simpa using h0
    go_enter Tryz.func20, Tryz.ntmps20
    go_wp2
    go_ret2
    exact HFI.out _ rfl
  · have hn0 : ((n : Int) == 0) = false := by simpa using h0
    go_enter Tryz.func20, Tryz.ntmps20
    go_wp2
    go_ret2
    exact HFI.out _ rfl

set_option maxRecDepth 100000 in
set_option maxHeartbeats 4000000 in
theorem append_keys (at_ : Int) (w : World) (g : Nat) (q : Lies) (x : Acc) (is : List Int) (vb : Value) (Sb : List Nat) (ks : Texts) (vk : Value) (Sk : List Nat) (t : List UInt8) (h : AppIn w g q x is vb Sb ks vk Sk t) (hgood : ¬ (is = [] ∨ at_ < 0 ∨ 253402300799 < at_)) (hke : (keysF ks).2 ≠ 0) :
    Calls Tryz.prog 20 #[.pointer (some ⟨g, 0, none⟩), vb, vk, .int .i64 at_, .string ⟨t.toArray⟩] w (AppOut w g q (appendP headF x is ks at_ t)) := by
  have hres : appendP headF x is ks at_ t = (x, 0, (keysF ks).2) := by
    unfold appendP appendK
    rw [if_neg hgood, if_pos hke]
  rw [hres]
  obtain ⟨A, cap, hvb, _, _⟩ := h.boxes.form
  have hgn : is.length ≠ 0 := fun h0 => hgood (.inl (List.eq_nil_of_length_eq_zero h0))
  have hn0 : ((is.length : Int) == 0) = false := by simpa using hgn
  have hg1 : ¬ at_ < 0 := fun h0 => hgood (.inr (.inl h0))
  have hg2 : ¬ 253402300799 < at_ := fun h0 => hgood (.inr (.inr h0))
  have hkc := h.kc
  rw [hvb]
  have H := Lib.hid h
  clear hvb hgood hgn h
  generalize keysF ks = kf at hkc hke ⊢
  obtain ⟨kl, ke⟩ := kf
  simp only at hkc hke ⊢
  have hq : (ke == 0) = false := by simpa using hke
  clear hres
  go_enter Tryz.func20, Tryz.ntmps20
  go_wp2_with (first
    | (go_at_call 61; refine hkc.mono ?_; rintro e w2 ⟨Ak, ck, hhk, rfl, _, hbk, _⟩; have HBK := Lib.hid hbk; clear hkc hbk)
    | fail)
  go_ret2
  exact ⟨rfl, q, Turned.of_below H.out.at_ HBK.out⟩

set_option maxRecDepth 100000 in
set_option maxHeartbeats 4000000 in
theorem append_name (at_ : Int) (w : World) (g : Nat) (q : Lies) (x : Acc) (is : List Int) (vb : Value) (Sb : List Nat) (ks : Texts) (vk : Value) (Sk : List Nat) (t : List UInt8) (h : AppIn w g q x is vb Sb ks vk Sk t) (hgood : ¬ (is = [] ∨ at_ < 0 ∨ 253402300799 < at_)) (hke : (keysF ks).2 = 0) (hwa : (rise is).any (fun id => !hasBox x.boxes id) = true) :
    Calls Tryz.prog 20 #[.pointer (some ⟨g, 0, none⟩), vb, vk, .int .i64 at_, .string ⟨t.toArray⟩] w (AppOut w g q (appendP headF x is ks at_ t)) := by
  have hres : appendP headF x is ks at_ t = (x, 0, 6) := by
    unfold appendP appendK
    rw [if_neg hgood, if_neg (by rw [hke]; simp), if_pos hwa]
  rw [hres]
  obtain ⟨A, cap, hvb, _, _⟩ := h.boxes.form
  have hgn : is.length ≠ 0 := fun h0 => hgood (.inl (List.eq_nil_of_length_eq_zero h0))
  have hn0 : ((is.length : Int) == 0) = false := by simpa using hgn
  have hg1 : ¬ at_ < 0 := fun h0 => hgood (.inr (.inl h0))
  have hg2 : ¬ 253402300799 < at_ := fun h0 => hgood (.inr (.inr h0))
  have hkc := h.kc
  have hwc := h.wc
  rw [hvb] at hwc ⊢
  have H := Lib.hid h
  clear hvb hgood hgn h
  rw [hwa] at hwc
  rw [hke] at hkc
  have HWC := Lib.hid hwc
  clear hres hwa hwc
  go_enter Tryz.func20, Tryz.ntmps20
  go_wp2_with (first
    | (go_at_call 61; refine hkc.mono ?_; rintro e w2 ⟨Ak, ck, hhk, rfl, hsk, hbk, hfk⟩; have HSK := Lib.hid hsk; have HBK := Lib.hid hbk; have HFK := Lib.hid hfk; have hwt := HWC.out w2 hbk; clear hkc hsk hbk hfk)
    | (go_at_call 62; refine hwt.mono ?_; rintro e w3 ⟨v3, h3, rfl, hs3, ho3, hb3⟩; clear hwt; obtain ⟨A3, p3, rfl, _, _⟩ := hs3.form; have HB3 := Lib.hid (below_then HBK.out hb3); clear hs3 ho3 hb3)
    | fail)
  go_ret2
  exact ⟨rfl, q, Turned.of_below H.out.at_ HB3.out⟩

set_option maxRecDepth 100000 in
set_option maxHeartbeats 4000000 in
theorem append_full1 (at_ : Int) (w : World) (g : Nat) (q : Lies) (x : Acc) (is : List Int) (vb : Value) (Sb : List Nat) (ks : Texts) (vk : Value) (Sk : List Nat) (t : List UInt8) (h : AppIn w g q x is vb Sb ks vk Sk t) (hgood : ¬ (is = [] ∨ at_ < 0 ∨ 253402300799 < at_)) (hke : (keysF ks).2 = 0) (hwa : (rise is).any (fun id => !hasBox x.boxes id) = false) (hfu : x.cfg.maxMails ≤ (x.mails.length : Int)) :
    Calls Tryz.prog 20 #[.pointer (some ⟨g, 0, none⟩), vb, vk, .int .i64 at_, .string ⟨t.toArray⟩] w (AppOut w g q (appendP headF x is ks at_ t)) := by
  have hres : appendP headF x is ks at_ t = (x, 0, 8) := by
    unfold appendP appendK
    rw [if_neg hgood, if_neg (by rw [hke]; simp), if_neg (by rw [hwa]; simp), if_pos (.inl hfu)]
  rw [hres]
  obtain ⟨Am, cm, hvm, _, _⟩ := h.at_.mails.form
  have hst := fun W (hb : Below w.heap.size w W) => h.at_.later hb
  have k11 := fun W hb => (hst W hb).cell11
  rw [hvm] at k11
  have k2 : ∀ W, Below w.heap.size w W → W.cell? ⟨g, 2, none⟩ = some (.int .i64 x.cfg.maxMails) := fun W hb => (hst W hb).cells 2
  have k4 : ∀ W, Below w.heap.size w W → W.cell? ⟨g, 4, none⟩ = some (.int .i64 x.cfg.maxSize) := fun W hb => (hst W hb).cells 4
  have k6 : ∀ W, Below w.heap.size w W → W.cell? ⟨g, 6, none⟩ = some (.int .i64 x.cfg.maxMod) := fun W hb => (hst W hb).cells 6
  have k9 : ∀ W, Below w.heap.size w W → W.cell? ⟨g, 9, none⟩ = some (.int .i64 x.clock) := fun W hb => (hst W hb).cell9
  have k15 : ∀ W, Below w.heap.size w W → W.cell? ⟨g, 15, none⟩ = some (.int .i64 x.octets) := fun W hb => (hst W hb).cell15
  have hsz := h.fit.cfg.size
  have hoc := h.fit.octets
  have hoc1 : 0 ≤ x.octets := by
    rw [hoc.1]
    exact sizeM_nonneg _
  have hoc2 := hoc.2
  have gw : IntKind.i64.wrap (x.cfg.maxSize - x.octets) = x.cfg.maxSize - x.octets := IntWalk.i64_in _ (by omega)
  obtain ⟨nm, hnm⟩ : ∃ nm, x.mails.length = nm := ⟨_, rfl⟩
  rw [hnm] at k11
  have K11 := Lib.hid k11
  have K2 := Lib.hid k2
  have K4 := Lib.hid k4
  have K6 := Lib.hid k6
  have K9 := Lib.hid k9
  have K15 := Lib.hid k15
  clear hst k11 k2 k4 k6 k9 k15 hsz hoc hvm
  obtain ⟨A, cap, hvb, _, _⟩ := h.boxes.form
  have hgn : is.length ≠ 0 := fun h0 => hgood (.inl (List.eq_nil_of_length_eq_zero h0))
  have hn0 : ((is.length : Int) == 0) = false := by simpa using hgn
  have hg1 : ¬ at_ < 0 := fun h0 => hgood (.inr (.inl h0))
  have hg2 : ¬ 253402300799 < at_ := fun h0 => hgood (.inr (.inr h0))
  have hkc := h.kc
  have hwc := h.wc
  rw [hvb] at hwc ⊢
  have H := Lib.hid h
  clear hvb hgood hgn h
  rw [hwa] at hwc
  rw [hke] at hkc
  have HWC := Lib.hid hwc
  rw [hnm] at hfu
  clear hres hwa hwc hnm
  go_enter Tryz.func20, Tryz.ntmps20
  go_wp2_with (first
    | (go_at_call 61; refine hkc.mono ?_; rintro e w2 ⟨Ak, ck, hhk, rfl, hsk, hbk, hfk⟩; have HSK := Lib.hid hsk; have HBK := Lib.hid hbk; have HFK := Lib.hid hfk; have hwt := HWC.out w2 hbk; clear hkc hsk hbk hfk)
    | (go_at_call 62; refine hwt.mono ?_; rintro e w3 ⟨v3, h3, rfl, hs3, ho3, hb3⟩; clear hwt; obtain ⟨A3, p3, rfl, _, _⟩ := hs3.form; have hbb := below_then HBK.out hb3; have c11 := K11.out w3 hbb; have c2 := K2.out w3 hbb; have c4 := K4.out w3 hbb; have c15 := K15.out w3 hbb; have c6 := K6.out w3 hbb; have c9 := K9.out w3 hbb; have HB3 := Lib.hid hbb; have HS3 := Lib.hid hs3; have HO3 := Lib.hid ho3; clear hs3 ho3 hb3 hbb)
    | fail)
  go_quiet (fail)
  go_wp2_with fail
  go_ret2
  exact ⟨rfl, q, (Turned.of_below H.out.at_ HB3.out).then_below (below_drewN' (Below.refl _ _) _)⟩

set_option maxRecDepth 100000 in
set_option maxHeartbeats 4000000 in
theorem append_full2 (at_ : Int) (w : World) (g : Nat) (q : Lies) (x : Acc) (is : List Int) (vb : Value) (Sb : List Nat) (ks : Texts) (vk : Value) (Sk : List Nat) (t : List UInt8) (h : AppIn w g q x is vb Sb ks vk Sk t) (hgood : ¬ (is = [] ∨ at_ < 0 ∨ 253402300799 < at_)) (hke : (keysF ks).2 = 0) (hwa : (rise is).any (fun id => !hasBox x.boxes id) = false) (hfu1 : ¬ x.cfg.maxMails ≤ (x.mails.length : Int)) (hfu : x.cfg.maxSize - x.octets < (t.length : Int)) :
    Calls Tryz.prog 20 #[.pointer (some ⟨g, 0, none⟩), vb, vk, .int .i64 at_, .string ⟨t.toArray⟩] w (AppOut w g q (appendP headF x is ks at_ t)) := by
  have hres : appendP headF x is ks at_ t = (x, 0, 8) := by
    unfold appendP appendK
    rw [if_neg hgood, if_neg (by rw [hke]; simp), if_neg (by rw [hwa]; simp), if_pos (.inr hfu)]
  rw [hres]
  obtain ⟨Am, cm, hvm, _, _⟩ := h.at_.mails.form
  have hst := fun W (hb : Below w.heap.size w W) => h.at_.later hb
  have k11 := fun W hb => (hst W hb).cell11
  rw [hvm] at k11
  have k2 : ∀ W, Below w.heap.size w W → W.cell? ⟨g, 2, none⟩ = some (.int .i64 x.cfg.maxMails) := fun W hb => (hst W hb).cells 2
  have k4 : ∀ W, Below w.heap.size w W → W.cell? ⟨g, 4, none⟩ = some (.int .i64 x.cfg.maxSize) := fun W hb => (hst W hb).cells 4
  have k6 : ∀ W, Below w.heap.size w W → W.cell? ⟨g, 6, none⟩ = some (.int .i64 x.cfg.maxMod) := fun W hb => (hst W hb).cells 6
  have k9 : ∀ W, Below w.heap.size w W → W.cell? ⟨g, 9, none⟩ = some (.int .i64 x.clock) := fun W hb => (hst W hb).cell9
  have k15 : ∀ W, Below w.heap.size w W → W.cell? ⟨g, 15, none⟩ = some (.int .i64 x.octets) := fun W hb => (hst W hb).cell15
  have hsz := h.fit.cfg.size
  have hoc := h.fit.octets
  have hoc1 : 0 ≤ x.octets := by
    rw [hoc.1]
    exact sizeM_nonneg _
  have hoc2 := hoc.2
  have gw : IntKind.i64.wrap (x.cfg.maxSize - x.octets) = x.cfg.maxSize - x.octets := IntWalk.i64_in _ (by omega)
  obtain ⟨nm, hnm⟩ : ∃ nm, x.mails.length = nm := ⟨_, rfl⟩
  rw [hnm] at k11
  have K11 := Lib.hid k11
  have K2 := Lib.hid k2
  have K4 := Lib.hid k4
  have K6 := Lib.hid k6
  have K9 := Lib.hid k9
  have K15 := Lib.hid k15
  clear hst k11 k2 k4 k6 k9 k15 hsz hoc hvm
  obtain ⟨A, cap, hvb, _, _⟩ := h.boxes.form
  have hgn : is.length ≠ 0 := fun h0 => hgood (.inl (List.eq_nil_of_length_eq_zero h0))
  have hn0 : ((is.length : Int) == 0) = false := by simpa using hgn
  have hg1 : ¬ at_ < 0 := fun h0 => hgood (.inr (.inl h0))
  have hg2 : ¬ 253402300799 < at_ := fun h0 => hgood (.inr (.inr h0))
  have hkc := h.kc
  have hwc := h.wc
  rw [hvb] at hwc ⊢
  have H := Lib.hid h
  clear hvb hgood hgn h
  rw [hwa] at hwc
  rw [hke] at hkc
  have HWC := Lib.hid hwc
  rw [hnm] at hfu1
  clear hres hwa hwc hnm
  go_enter Tryz.func20, Tryz.ntmps20
  go_wp2_with (first
    | (go_at_call 61; refine hkc.mono ?_; rintro e w2 ⟨Ak, ck, hhk, rfl, hsk, hbk, hfk⟩; have HSK := Lib.hid hsk; have HBK := Lib.hid hbk; have HFK := Lib.hid hfk; have hwt := HWC.out w2 hbk; clear hkc hsk hbk hfk)
    | (go_at_call 62; refine hwt.mono ?_; rintro e w3 ⟨v3, h3, rfl, hs3, ho3, hb3⟩; clear hwt; obtain ⟨A3, p3, rfl, _, _⟩ := hs3.form; have hbb := below_then HBK.out hb3; have c11 := K11.out w3 hbb; have c2 := K2.out w3 hbb; have c4 := K4.out w3 hbb; have c15 := K15.out w3 hbb; have c6 := K6.out w3 hbb; have c9 := K9.out w3 hbb; have HB3 := Lib.hid hbb; have HS3 := Lib.hid hs3; have HO3 := Lib.hid ho3; clear hs3 ho3 hb3 hbb)
    | fail)
  go_quiet (fail)
  go_wp2_with fail
  go_quiet (fail)
  go_wp2_with fail
  go_ret2
  exact ⟨rfl, q, (Turned.of_below H.out.at_ HB3.out).then_below (below_drewN' (below_drewN' (Below.refl _ _) _) _)⟩


end Go.Proofs.YtgkfknbhkonfdaaGreatDoor

namespace Go.Proofs.YtgkfknbhkonfdaaGreatDoor
open Go.Shelf Go.RowKit
attribute [local go_sem ↓] Go.wp_at_zero Go.wp_at_succ

theorem all_in {x : Acc} {l : List Int} (hwa : l.any (fun id => !hasBox x.boxes id) = false) : ∀ i ∈ l, i ∈ ids x.boxes := by
  intro i hi
  have h1 := (List.any_eq_false.1 hwa) i hi
  have h2 : hasBox x.boxes i = true := by simpa using h1
  exact (hasBox_iff x.boxes i).1 h2

set_option maxRecDepth 100000 in
set_option maxHeartbeats 4000000 in
theorem append_ends (at_ : Int) (w : World) (g : Nat) (q : Lies) (x : Acc) (is : List Int) (vb : Value) (Sb : List Nat) (ks : Texts) (vk : Value) (Sk : List Nat) (t : List UInt8) (h : AppIn w g q x is vb Sb ks vk Sk t) (hgood : ¬ (is = [] ∨ at_ < 0 ∨ 253402300799 < at_)) (hke : (keysF ks).2 = 0) (hwa : (rise is).any (fun id => !hasBox x.boxes id) = false) (hfu1 : ¬ x.cfg.maxMails ≤ (x.mails.length : Int)) (hfu2 : ¬ x.cfg.maxSize - x.octets < (t.length : Int)) (hen : x.cfg.maxMod ≤ x.clock) :
    Calls Tryz.prog 20 #[.pointer (some ⟨g, 0, none⟩), vb, vk, .int .i64 at_, .string ⟨t.toArray⟩] w (AppOut w g q (appendP headF x is ks at_ t)) := by
  have hres : appendP headF x is ks at_ t = (x, 0, 11) := by
    unfold appendP appendK
    rw [if_neg hgood, if_neg (by rw [hke]; simp), if_neg (by rw [hwa]; simp), if_neg (by omega), if_pos (by simp [Acc.ends, hen])]
  rw [hres]
  obtain ⟨Am, cm, hvm, _, _⟩ := h.at_.mails.form
  have hst := fun W (hb : Below w.heap.size w W) => h.at_.later hb
  have k11 := fun W hb => (hst W hb).cell11
  rw [hvm] at k11
  have k2 : ∀ W, Below w.heap.size w W → W.cell? ⟨g, 2, none⟩ = some (.int .i64 x.cfg.maxMails) := fun W hb => (hst W hb).cells 2
  have k4 : ∀ W, Below w.heap.size w W → W.cell? ⟨g, 4, none⟩ = some (.int .i64 x.cfg.maxSize) := fun W hb => (hst W hb).cells 4
  have k6 : ∀ W, Below w.heap.size w W → W.cell? ⟨g, 6, none⟩ = some (.int .i64 x.cfg.maxMod) := fun W hb => (hst W hb).cells 6
  have k9 : ∀ W, Below w.heap.size w W → W.cell? ⟨g, 9, none⟩ = some (.int .i64 x.clock) := fun W hb => (hst W hb).cell9
  have k15 : ∀ W, Below w.heap.size w W → W.cell? ⟨g, 15, none⟩ = some (.int .i64 x.octets) := fun W hb => (hst W hb).cell15
  have hsz := h.fit.cfg.size
  have hoc := h.fit.octets
  have hoc1 : 0 ≤ x.octets := by
    rw [hoc.1]
    exact sizeM_nonneg _
  have hoc2 := hoc.2
  have gw : IntKind.i64.wrap (x.cfg.maxSize - x.octets) = x.cfg.maxSize - x.octets := IntWalk.i64_in _ (by omega)
  obtain ⟨nm, hnm⟩ : ∃ nm, x.mails.length = nm := ⟨_, rfl⟩
  rw [hnm] at k11
  have K11 := Lib.hid k11
  have K2 := Lib.hid k2
  have K4 := Lib.hid k4
  have K6 := Lib.hid k6
  have K9 := Lib.hid k9
  have K15 := Lib.hid k15
  clear hst k11 k2 k4 k6 k9 k15 hsz hoc hvm
  obtain ⟨A, cap, hvb, _, _⟩ := h.boxes.form
  have hgn : is.length ≠ 0 := fun h0 => hgood (.inl (List.eq_nil_of_length_eq_zero h0))
  have hn0 : ((is.length : Int) == 0) = false := by simpa using hgn
  have hg1 : ¬ at_ < 0 := fun h0 => hgood (.inr (.inl h0))
  have hg2 : ¬ 253402300799 < at_ := fun h0 => hgood (.inr (.inr h0))
  have hkc := h.kc
  have hwc := h.wc
  rw [hvb] at hwc ⊢
  have H := Lib.hid h
  clear hvb hgood hgn h
  rw [hwa] at hwc
  rw [hke] at hkc
  have HWC := Lib.hid hwc
  rw [hnm] at hfu1
  clear hres
  clear hwa hwc hnm
  go_enter Tryz.func20, Tryz.ntmps20
  go_wp2_with (first
    | (go_at_call 61; refine hkc.mono ?_; rintro e w2 ⟨Ak, ck, hhk, rfl, hsk, hbk, hfk⟩; have HSK := Lib.hid hsk; have HBK := Lib.hid hbk; have HFK := Lib.hid hfk; have hwt := HWC.out w2 hbk; clear hkc hsk hbk hfk)
    | (go_at_call 62; refine hwt.mono ?_; rintro e w3 ⟨v3, h3, rfl, hs3, ho3, hb3⟩; clear hwt; obtain ⟨A3, p3, rfl, _, _⟩ := hs3.form; have hbb := below_then HBK.out hb3; have c11 := K11.out w3 hbb; have c2 := K2.out w3 hbb; have c4 := K4.out w3 hbb; have c15 := K15.out w3 hbb; have c6 := K6.out w3 hbb; have c9 := K9.out w3 hbb; have HB3 := Lib.hid hbb; have HS3 := Lib.hid hs3; have HO3 := Lib.hid ho3; clear hs3 ho3 hb3 hbb)
    | fail)
  go_quiet (fail)
  go_wp2_with fail
  go_quiet (fail)
  go_wp2_with (first
    | (go_at_call 63; refine (ends_any g x.clock x.cfg.maxMod _ ((cell_heap (w := w3) (by rfl) _).trans c9) ((cell_heap (w := w3) (by rfl) _).trans c6)).mono ?_; rintro e w4 ⟨rfl, ne, rfl⟩)
    | fail)
  go_ret2
  exact ⟨rfl, q, (Turned.of_below H.out.at_ HB3.out).then_below (below_drewN' (Below.refl _ _) _)⟩

set_option maxRecDepth 100000 in
set_option maxHeartbeats 4000000 in
theorem append_spent (at_ : Int) (w : World) (g : Nat) (q : Lies) (x : Acc) (is : List Int) (vb : Value) (Sb : List Nat) (ks : Texts) (vk : Value) (Sk : List Nat) (t : List UInt8) (h : AppIn w g q x is vb Sb ks vk Sk t) (hgood : ¬ (is = [] ∨ at_ < 0 ∨ 253402300799 < at_)) (hke : (keysF ks).2 = 0) (hwa : (rise is).any (fun id => !hasBox x.boxes id) = false) (hfu1 : ¬ x.cfg.maxMails ≤ (x.mails.length : Int)) (hfu2 : ¬ x.cfg.maxSize - x.octets < (t.length : Int)) (hen : ¬ x.cfg.maxMod ≤ x.clock) (hsp : (rise is).any x.spent = true) :
    Calls Tryz.prog 20 #[.pointer (some ⟨g, 0, none⟩), vb, vk, .int .i64 at_, .string ⟨t.toArray⟩] w (AppOut w g q (appendP headF x is ks at_ t)) := by
  have hres : appendP headF x is ks at_ t = (x, 0, 11) := by
    unfold appendP appendK
    rw [if_neg hgood, if_neg (by rw [hke]; simp), if_neg (by rw [hwa]; simp), if_neg (by omega), if_pos (by simp [hsp])]
  rw [hres]
  obtain ⟨Am, cm, hvm, _, _⟩ := h.at_.mails.form
  have hst := fun W (hb : Below w.heap.size w W) => h.at_.later hb
  have k11 := fun W hb => (hst W hb).cell11
  rw [hvm] at k11
  have k2 : ∀ W, Below w.heap.size w W → W.cell? ⟨g, 2, none⟩ = some (.int .i64 x.cfg.maxMails) := fun W hb => (hst W hb).cells 2
  have k4 : ∀ W, Below w.heap.size w W → W.cell? ⟨g, 4, none⟩ = some (.int .i64 x.cfg.maxSize) := fun W hb => (hst W hb).cells 4
  have k6 : ∀ W, Below w.heap.size w W → W.cell? ⟨g, 6, none⟩ = some (.int .i64 x.cfg.maxMod) := fun W hb => (hst W hb).cells 6
  have k9 : ∀ W, Below w.heap.size w W → W.cell? ⟨g, 9, none⟩ = some (.int .i64 x.clock) := fun W hb => (hst W hb).cell9
  have k15 : ∀ W, Below w.heap.size w W → W.cell? ⟨g, 15, none⟩ = some (.int .i64 x.octets) := fun W hb => (hst W hb).cell15
  have hsz := h.fit.cfg.size
  have hoc := h.fit.octets
  have hoc1 : 0 ≤ x.octets := by
    rw [hoc.1]
    exact sizeM_nonneg _
  have hoc2 := hoc.2
  have gw : IntKind.i64.wrap (x.cfg.maxSize - x.octets) = x.cfg.maxSize - x.octets := IntWalk.i64_in _ (by omega)
  obtain ⟨nm, hnm⟩ : ∃ nm, x.mails.length = nm := ⟨_, rfl⟩
  rw [hnm] at k11
  have K11 := Lib.hid k11
  have K2 := Lib.hid k2
  have K4 := Lib.hid k4
  have K6 := Lib.hid k6
  have K9 := Lib.hid k9
  have K15 := Lib.hid k15
  clear hst k11 k2 k4 k6 k9 k15 hsz hoc hvm
  obtain ⟨A, cap, hvb, _, _⟩ := h.boxes.form
  have hgn : is.length ≠ 0 := fun h0 => hgood (.inl (List.eq_nil_of_length_eq_zero h0))
  have hn0 : ((is.length : Int) == 0) = false := by simpa using hgn
  have hg1 : ¬ at_ < 0 := fun h0 => hgood (.inr (.inl h0))
  have hg2 : ¬ 253402300799 < at_ := fun h0 => hgood (.inr (.inr h0))
  have hkc := h.kc
  have hwc := h.wc
  rw [hvb] at hwc ⊢
  have H := Lib.hid h
  clear hvb hgood hgn h
  rw [hwa] at hwc
  rw [hke] at hkc
  have HWC := Lib.hid hwc
  rw [hnm] at hfu1
  clear hres
  have hsc := H.out.sc (all_in hwa)
  rw [hsp] at hsc
  clear hwa hwc hnm
  go_enter Tryz.func20, Tryz.ntmps20
  go_wp2_with (first
    | (go_at_call 61; refine hkc.mono ?_; rintro e w2 ⟨Ak, ck, hhk, rfl, hsk, hbk, hfk⟩; have HSK := Lib.hid hsk; have HBK := Lib.hid hbk; have HFK := Lib.hid hfk; have hwt := HWC.out w2 hbk; clear hkc hsk hbk hfk)
    | (go_at_call 62; refine hwt.mono ?_; rintro e w3 ⟨v3, h3, rfl, hs3, ho3, hb3⟩; clear hwt; obtain ⟨A3, p3, rfl, _, _⟩ := hs3.form; have hbb := below_then HBK.out hb3; have c11 := K11.out w3 hbb; have c2 := K2.out w3 hbb; have c4 := K4.out w3 hbb; have c15 := K15.out w3 hbb; have c6 := K6.out w3 hbb; have c9 := K9.out w3 hbb; have HB3 := Lib.hid hbb; have HS3 := Lib.hid hs3; have HO3 := Lib.hid ho3; clear hs3 ho3 hb3 hbb)
    | fail)
  go_quiet (fail)
  go_wp2_with fail
  go_quiet (fail)
  go_wp2_with (first
    | (go_at_call 63; refine (ends_any g x.clock x.cfg.maxMod _ ((cell_heap (w := w3) (by rfl) _).trans c9) ((cell_heap (w := w3) (by rfl) _).trans c6)).mono ?_; rintro e w4 ⟨rfl, ne, rfl⟩)
    | (go_at_call 64; refine (hsc _ (below_drewN' HB3.out _) _ h3 (HS3.out.heap (by rfl))).mono ?_; rintro e w5 ⟨rfl, hb5⟩; have HB5 := Lib.hid hb5)
    | fail)
  go_ret2
  exact ⟨rfl, q, (((Turned.of_below H.out.at_ HB3.out).then_below (below_drewN' (Below.refl _ _) _))).then_below HB5.out⟩


end Go.Proofs.YtgkfknbhkonfdaaGreatDoor

namespace Go.Proofs.YtgkfknbhkonfdaaGreatDoor
open Go.Shelf Go.RowKit
attribute [local go_sem ↓] Go.wp_at_zero Go.wp_at_succ

/-- The region of a number within a function's code, where it stands in the outer row. -/
def pickR (n : Nat) : Code → Code
  | .seq (.region k ops d) r => if k = n then .region k ops d else pickR n r
  | .seq _ r => pickR n r
  | .region k ops d => if k = n then .region k ops d else .skip
  | _ => .skip

theorem Try.infoMember2 : (Tryz.prog.info? 138).map (fun i => (i.zero, i.size, i.bytes)) = some (some (.agg #[.int .i64 0, .int .i64 0]), 2, 16) := by kernel_rfl

theorem fresh_new {h8 h2 : Option Nat} {B n8 : Nat} (ho8 : ∀ b, h8 = some b → B ≤ b) (ho9 : h2 = h8 ∨ ∃ g, h2 = some g ∧ n8 ≤ g) (hn : B ≤ n8) : ∀ b, h2 = some b → B ≤ b := by
  intro b hb
  rcases ho9 with h7 | ⟨g7, h7, h8x⟩
  · exact ho8 b (by rw [← h7]; exact hb)
  · rw [h7] at hb
    injection hb with hb
    omega
/-- The log's Add, at an account. -/
theorem addReady {W : World} {g : Nat} {q : Lies} {x : Acc} (h : StoreAt W g q x) (hm1 : 1 ≤ x.log.most) (hm2 : x.log.most ≤ 1099511627776) (hn1 : x.log.es.length ≤ 1099511627776) {e : List E4} {A : Option Addr} {c n : Nat} {hh : Option Nat} (hs : Sl W 144 4 (.slice A n c) hh n (flatE e)) (hn : e.length = n) (hn2 : n ≤ 1099511627776) (hho : ∀ b, hh = some b → b ∉ q.own g) :
    Calls Tryz.prog 69 #[.pointer (some ⟨q.gl, 0, none⟩), .slice A n c] W fun e' w' => e' = .returned (.tuple #[]) ∧ ∃ q'', Turned W w' g q { x with log := x.log.add e } q'' := by
  subst hn
  refine (add_any W q.gl q.hl x.log A c e h.log hm1 hm2 hn1 hn2 (fun hne => ?_)).mono ?_
  · have hpos : 0 < e.length := by
      cases e with
      | nil => exact absurd rfl hne
      | cons y r => simp
    obtain ⟨b, off, cap, hb, hv, _, _, hlt, hat⟩ := hs.at_ hpos
    injection hv with hv1
    refine ⟨b, off, hv1, hlt, fun hm => hho b hb ?_, fun j hj => (hat j hj).1⟩
    rcases List.mem_cons.1 hm with hm | hm
    · rw [hm]
      exact Lies.own_gl
    · exact Lies.own_hl (by simpa using hm)
  · rintro e' w' ⟨rfl, h', hl, hc, ho⟩
    exact ⟨rfl, _, h.setLog hl hc ho⟩

/-- Behind turned and the entries' append. -/
theorem tailB {wg w8 w8' w9 : World} {g : Nat} {q : Lies} {x5 x6 : Acc} {h8 h2 : Option Nat} {e : List E4} {A : Option Addr} {c n : Nat} (hst : StoreAt wg g q x5) (ht8 : Turned wg w8 g q x6 q) (ho8 : ∀ b, h8 = some b → wg.heap.size ≤ b) (hb8 : Below w8.heap.size w8 w8') (hs9 : Sl w9 144 4 (.slice A n c) h2 n (flatE e)) (hc9 : Chg h8.toList w8' w9) (ho9 : h2 = h8 ∨ ∃ g, h2 = some g ∧ w8'.heap.size ≤ g)
    (hn : e.length = n) (hn2 : n ≤ 1099511627776) (hlog : 1 ≤ x6.log.most ∧ x6.log.most ≤ 1099511627776 ∧ x6.log.es.length ≤ 1099511627776) :
    Turned wg w9 g q x6 q ∧ Calls Tryz.prog 69 #[.pointer (some ⟨q.gl, 0, none⟩), .slice A n c] w9 fun e' w' => e' = .returned (.tuple #[]) ∧ ∃ q'', Turned w9 w' g q { x6 with log := x6.log.add e } q'' := by
  have ht9 := (ht8.then_below hb8).newer hst hc9 (fun k hk => ho8 k (by simpa using hk))
  have h9 : wg.heap.size ≤ w8.heap.size := ht8.chg.size
  have h6 := fresh_new ho8 ho9 (Nat.le_trans h9 hb8.size)
  exact ⟨ht9, addReady ht9.at_ hlog.1 hlog.2.1 hlog.2.2 hs9 hn hn2 (fun b hb hm => by
    have h5 := hst.lt b hm
    have h7 := h6 b hb
    omega)⟩


end Go.Proofs.YtgkfknbhkonfdaaGreatDoor

namespace Go.Proofs.YtgkfknbhkonfdaaGreatDoor
open Go.Shelf Go.RowKit
attribute [local go_sem ↓] Go.wp_at_zero Go.wp_at_succ

theorem Try.infoInt3 : (Tryz.prog.info? 3).map (fun i => (i.zero, i.size, i.bytes)) = some (some (.int .i64 0), 1, 8) := by kernel_rfl

def ids1 (l : List (Int × Int)) : List Int := l.map (·.1)
structure WithRel (w wr : World) (l : List (Int × Int)) (k : Nat) (o : Value) : Prop where
  below : Below w.heap.size w wr
  out : ∃ h, Sl wr 3 1 o h k ((ids1 (l.take k)).map encI) ∧ ∀ b, h = some b → w.heap.size ≤ b
theorem WithRel.next {w wr W W2 : World} {l : List (Int × Int)} {k : Nat} {o o2 : Value} {h1 h2 : Option Nat} (hR : WithRel w wr l k o) (hk : k < l.length) (hb : Below wr.heap.size wr W) (hf1 : ∀ b, h1 = some b → w.heap.size ≤ b)
    (hs2 : Sl W2 3 1 o2 h2 (k + 1) ((ids1 (l.take k)).map encI ++ [.int .i64 l[k].1])) (hc2 : Chg h1.toList W W2) (ho2 : h2 = h1 ∨ ∃ g, h2 = some g ∧ W.heap.size ≤ g) : WithRel w W2 l (k + 1) o2 := by
  have hbW := below_then hR.below hb
  refine ⟨hbW.trans (hc2.below hbW.size (fun k hk => hf1 k (by simpa using hk))), h2, ?_, fun b hb2 => ?_⟩
  · have e : (ids1 (l.take (k + 1))).map encI = (ids1 (l.take k)).map encI ++ [.int .i64 l[k].1] := by
      rw [List.take_succ_eq_append_getElem hk]
      unfold ids1
      rw [List.map_append, List.map_append]
      rfl
    rw [e]
    exact hs2
  · rcases ho2 with h3 | ⟨g2, h3, h4⟩
    · exact hf1 b (by rw [← h3]; exact hb2)
    · rw [h3] at hb2
      injection hb2 with hb2
      have := hbW.size
      omega

set_option maxRecDepth 100000 in
set_option maxHeartbeats 2000000 in
theorem within_any (w : World) (a0 a1 a3 a6 a7 : Int) (s2 : ByteArray) (vk vm : Value) (l : List (Int × Int)) (hm : RdS w [] 2 vm l.length (flatG encMem l)) (hn : l.length ≤ 1099511627776) :
    Calls Tryz.prog 75 #[.agg #[.int .i64 a0, .int .i64 a1, .string s2, .int .i64 a3, vk, vm, .int .i64 a6, .int .i64 a7]] w fun e w' => ∃ v hh, e = .returned v ∧ Sl w' 3 1 v hh l.length ((ids1 l).map encI) ∧ (∀ b, hh = some b → w.heap.size ≤ b) ∧ Below w.heap.size w w' := by
  obtain ⟨i0, hi, hz0, hz1, hz2⟩ := info_parts Try.infoInt3
  obtain ⟨n, hnn⟩ : ∃ n, l.length = n := ⟨_, rfl⟩
  rw [hnn] at hm
  obtain ⟨A, cap, rfl, _, _⟩ := hm.form
  have hHR : Hid (WithRel w (w.alloc (.cells #[.int .i64 a0, .int .i64 a1, .string s2, .int .i64 a3, vk, .slice A n cap, .int .i64 a6, .int .i64 a7] 90)) l 0 (.slice none 0 0)) := Lib.hid ⟨below_alloc1 _ _, none, Sl.nil _ _ _, fun b hb => (by cases hb)⟩
  have HM := Lib.hid hm
  have HNN := Lib.hid hnn
  clear hm hnn
  go_enter Tryz.func75, Tryz.ntmps75
  go_wp2
  go_loopw [3, 9] (fun o i wr => ∃ k : Nat, k ≤ n ∧ i = .int .i64 k ∧ Hid (WithRel w wr l k o)) (fun _ i _ => n - (intOf i).toNat)
  case atStart => exact ⟨0, Nat.zero_le _, rfl, hHR⟩
  case round =>
    obtain ⟨k, hk, rfl, HU⟩ := hrel
    by_cases hlt : k < n
    · have hkl : k < l.length := by rw [HNN.out]; exact hlt
      obtain ⟨b, off, cap', hv, _, _, hblt, _, hat⟩ := HM.out.at_ (by omega)
      injection hv with hv1 _ hv2
      subst hv1 hv2
      obtain ⟨p1, hp1⟩ : ∃ p1, l[k].1 = p1 := ⟨_, rfl⟩
      obtain ⟨p2, hp2⟩ : ∃ p2, l[k].2 = p2 := ⟨_, rfl⟩
      have e0 : wr.cell? ⟨b, off + k * 2, none⟩ = some (.int .i64 p1) := by
        refine (HU.out.below.cell hblt).trans ?_
        have h1 := hat (k * 2 + 0) (by omega)
        rw [flatG_get encMem_length l k 0 hkl (by omega)] at h1
        rw [← hp1]
        exact h1
      have e1 : wr.cell? ⟨b, off + k * 2 + 1, none⟩ = some (.int .i64 p2) := by
        refine (HU.out.below.cell hblt).trans ?_
        have h1 := hat (k * 2 + 1) (by omega)
        rw [flatG_get encMem_length l k 1 hkl (by omega), ← Nat.add_assoc] at h1
        rw [← hp2]
        exact h1
      obtain ⟨h0, hs0, hf0⟩ := HU.out.out
      obtain ⟨A0, c0, rfl, _, _⟩ := hs0.form
      have HS0 := Lib.hid (hs0.alloc (.cells #[.int .i64 p1, .int .i64 p2] 138))
      have HF0 := Lib.hid hf0
      have HP1 := Lib.hid hp1
      clear hs0 hf0 hp1 hp2 hat
      go_wp2_with (first
        | (at_builtin; refine wpList_append_slX rfl _ _ 35 rfl Tryz.underlying35 hi hz0 hz1 hz2 rfl (by decide) HS0.out rfl (wr.heap.size + 1) (by simp) 1 1 rfl rfl ?_ ?_ ?_ ?_)
        | fail)
      any_goals (first | (simp [Value.oneCell']; done) | (unfold maxLen; omega) | omega)
      intro v2 h2 w5 hs5 hc5 ho5
      have HNX : Hid (WithRel w w5 l (k + 1) v2) := Lib.hid (WithRel.next (h1 := h0) HU.out hkl (below_alloc1 wr _) HF0.out (by rw [HP1.out]; exact hs5) hc5 (by rw [World.size_alloc]; exact ho5))
      clear hs5 hc5 ho5
      go_wp2
      refine ⟨?_, by simp [intOf]; omega⟩
      first | exact ⟨k + 1, by omega, by go_num, HNX⟩ | ((repeat apply Exists.intro); exact ⟨⟨k + 1, by omega, by go_num, HNX⟩, rfl⟩)
    · have hkn : k = n := by omega
      subst hkn
      obtain ⟨h0, hs0, hf0⟩ := HU.out.out
      rw [List.take_of_length_le (by rw [HNN.out]; exact Nat.le_refl _)] at hs0
      have HS0 := Lib.hid hs0
      have HF0 := Lib.hid hf0
      clear hs0 hf0
      go_wp2
      go_ret
      exact ⟨_, h0, rfl, by rw [HNN.out]; exact HS0.out, HF0.out, HU.out.below⟩

end Go.Proofs.YtgkfknbhkonfdaaGreatDoor

namespace Go.Proofs.YtgkfknbhkonfdaaGreatDoor
open Go.Shelf Go.RowKit
attribute [local go_sem ↓] Go.wp_at_zero Go.wp_at_succ

set_option maxRecDepth 100000 in
set_option maxHeartbeats 8000000 in
theorem keys_tell (wg : World) (g : Nat) (q : Lies) (x5 x6 : Acc) (mod id : Int) (ne n3 : Nat) (A3 : Option Addr) (p3 : Nat) (es : List E4) (u2 u3 u4 u5 u6 u7 u8 u9 u11 u13 u14 u15 u16 u17 u18 u19 u20 u21 u22 u23 u24 u25 u26 u27 u28 u29 u30 u31 u32 u33 u34 u35 u36 u37 u38 u39 u40 u41 u42 u43 u44 u45 u46 u47 u48 u49 u50 u51 u52 u53 u54 u55 u56 u57 u58 u59 u60 u61 u62 u63 u64 u65 u66 u67 u68 u69 u70 u71 u72 u73 u74 u75 u76 u77 u78 u79 u80 u81 u82 u83 u84 : Value) (K : Act → World → Prop) (R : Ending → World → Prop) (fn : Func)
    (hst : StoreAt wg g q x5) (hes : es.length = ne) (hne : ne ≤ 4294967296) (hlog : 1 ≤ x6.log.most ∧ x6.log.most ≤ 1099511627776 ∧ x6.log.es.length ≤ 1099511627776)
    (htu : ∀ W, Below wg.heap.size wg W → Calls Tryz.prog 70 #[.pointer (some ⟨g, 0, none⟩), .int .i64 mod, .slice A3 n3 p3] W fun e w' => ∃ v' hh, e = .returned v' ∧ Sl w' 144 4 v' hh ne (flatE es) ∧ (∀ b, hh = some b → W.heap.size ≤ b) ∧ Turned W w' g q x6 q)
    (hQ : ∀ (v71 v72 v73 v74 v75 v76 v77 v78 v79 v80 v81 v82 v83 v84 : Value) (wx : World) (q2 : Lies), Turned wg wx g q { x6 with log := x6.log.add (es ++ [⟨mod, 2, id, 2⟩]) } q2 → K ⟨#[.pointer (some ⟨g, 0, none⟩), .int .i64 id, u2, u3, u4, u5, u6, u7, u8, u9, .int .i64 mod, u11, .slice A3 n3 p3, u13, u14, u15, u16, u17, u18, u19, u20, u21, u22, u23, u24, u25, u26, u27, u28, u29, u30, u31, u32, u33, u34, u35, u36, u37, u38, u39, u40, u41, u42, u43, u44, u45, u46, u47, u48, u49, u50, u51, u52, u53, u54, u55, u56, u57, u58, u59, u60, u61, u62, u63, u64, u65, u66, u67, u68, u69, u70, v71, v72, v73, v74, v75, v76, v77, v78, v79, v80, v81, v82, v83, v84], []⟩ wx) :
    Code.wp Tryz.prog (pickR 19 (Tryz.f23.body.getD .skip)) (Exit.then K (bodyPost Tryz.prog fn R)) ⟨#[.pointer (some ⟨g, 0, none⟩), .int .i64 id, u2, u3, u4, u5, u6, u7, u8, u9, .int .i64 mod, u11, .slice A3 n3 p3, u13, u14, u15, u16, u17, u18, u19, u20, u21, u22, u23, u24, u25, u26, u27, u28, u29, u30, u31, u32, u33, u34, u35, u36, u37, u38, u39, u40, u41, u42, u43, u44, u45, u46, u47, u48, u49, u50, u51, u52, u53, u54, u55, u56, u57, u58, u59, u60, u61, u62, u63, u64, u65, u66, u67, u68, u69, u70, u71, u72, u73, u74, u75, u76, u77, u78, u79, u80, u81, u82, u83, u84], []⟩ wg := by
  obtain ⟨e0, he, he0, he1, he2⟩ := info_parts Try.infoEntry
  have hgl := hst.blk.lt
  have c12 : wg.cell? ⟨g, 12, none⟩ = some (.pointer (some ⟨q.gl, 0, none⟩)) := hst.cell12
  have c12a := (World.cell?_alloc_lt wg (.cells #[.int .i64 mod, .int .i64 2, .int .i64 id, .int .i64 2] 144) ⟨g, 12, none⟩ hgl).trans c12
  have HTU := Lib.hid htu
  have HST5 := Lib.hid hst
  have HLOG := Lib.hid hlog
  have HES := Lib.hid hes
  have HQ := Lib.hid hQ
  clear htu hst hlog hes hQ
  unfold Tryz.f23
  simp only [Option.getD_some, pickR, Nat.reduceEqDiff, if_true, if_false, reduceCtorEq]
  go_region_law (first
    | (refine step_call (by rfl) (by rfl) (enters_of Tryz.func70 (by kernel_rfl) rfl) (by first | (simp [Act.eval]; done) | simp [Act.eval, Act.put]) (HTU.out _ (below_drew1 wg)) ?_; rintro e w8 ⟨v8, h8, rfl, hs8, ho8, ht8⟩; obtain ⟨A8, c8, rfl, _, _⟩ := hs8.form; refine ⟨_, rfl, ?_⟩; have d12 : w8.cell? ⟨g, 12, none⟩ = some (.pointer (some ⟨q.gl, 0, none⟩)) := ht8.at_.cell12; have ht8b := (Turned.of_below HST5.out (below_drew1 wg)).trans ht8; have hg8 : g < w8.heap.size := Nat.lt_of_lt_of_le hgl ht8b.chg.size; have d12a := (World.cell?_alloc_lt w8 (.cells #[.int .i64 mod, .int .i64 2, .int .i64 id, .int .i64 2] 144) ⟨g, 12, none⟩ hg8).trans d12;  have HS8 := Lib.hid hs8; have HO8 : Hid (∀ b, h8 = some b → wg.heap.size ≤ b) := Lib.hid (fun b hb => Nat.le_trans (Below.size (below_drew1 wg)) (ho8 b hb)); have HT8 := Lib.hid ht8b; clear hs8 ho8 ht8 ht8b)
    | (refine step_call (by rfl) (by rfl) (enters_of Tryz.func70 (by kernel_rfl) rfl) (by first | (simp [Act.eval]; done) | simp [Act.eval, Act.put]) (HTU.out _ (below_then (below_alloc1 wg (.cells #[.int .i64 mod, .int .i64 2, .int .i64 id, .int .i64 2] 144)) (below_drew1 _))) ?_; rintro e w8 ⟨v8, h8, rfl, hs8, ho8, ht8⟩; obtain ⟨A8, c8, rfl, _, _⟩ := hs8.form; refine ⟨_, rfl, ?_⟩; have d12 : w8.cell? ⟨g, 12, none⟩ = some (.pointer (some ⟨q.gl, 0, none⟩)) := ht8.at_.cell12; have ht8b := (Turned.of_below HST5.out (below_then (below_alloc1 wg (.cells #[.int .i64 mod, .int .i64 2, .int .i64 id, .int .i64 2] 144)) (below_drew1 _))).trans ht8; have hg8 : g < w8.heap.size := Nat.lt_of_lt_of_le hgl ht8b.chg.size; have d12a := (World.cell?_alloc_lt w8 (.cells #[.int .i64 mod, .int .i64 2, .int .i64 id, .int .i64 2] 144) ⟨g, 12, none⟩ hg8).trans d12; have HL8 : Hid (Blk w8 wg.heap.size 144 #[.int .i64 mod, .int .i64 2, .int .i64 id, .int .i64 2]) := Lib.hid (((Blk.new wg 144 #[.int .i64 mod, .int .i64 2, .int .i64 id, .int .i64 2]).heap (w' := (wg.alloc (.cells #[.int .i64 mod, .int .i64 2, .int .i64 id, .int .i64 2] 144)).drew) rfl).chg ht8.chg (fun hm => Nat.lt_irrefl _ (HST5.out.lt _ hm))); have HS8 := Lib.hid hs8; have HO8 : Hid (∀ b, h8 = some b → wg.heap.size ≤ b) := Lib.hid (fun b hb => Nat.le_trans (Below.size (below_then (below_alloc1 wg (.cells #[.int .i64 mod, .int .i64 2, .int .i64 id, .int .i64 2] 144)) (below_drew1 _))) (ho8 b hb)); have HT8 := Lib.hid ht8b; clear hs8 ho8 ht8 ht8b)
    | (refine step_append_sl _ (by rfl) (.tmp 78) (.tmp 82) _ (by rfl) Tryz.underlying141 he he0 he1 he2 rfl (by omega) (HS8.out.alloc _) (by first | (simp [Act.eval]; done) | simp [Act.eval, Act.put]) w8.heap.size #[.int .i64 mod, .int .i64 2, .int .i64 id, .int .i64 2] (e' := 144) (fr := (0, 0)) (heap_alloc_new w8 _) 1 1 (by first | (simp [Act.eval]; done) | simp [Act.eval, Act.put]) (by rfl) (by simp [Value.oneCell']) (by unfold maxLen; omega) (by omega) ?_; intro v2 h2 w9 hs9 hc9 ho9; obtain ⟨A10, c10, rfl, _, _⟩ := hs9.form; obtain ⟨ht9, hadd⟩ := tailB (e := (es ++ [⟨mod, 2, id, 2⟩])) HST5.out HT8.out HO8.out (below_alloc1 w8 _) (by rw [flatE_append]; exact hs9) hc9 ho9 (by rw [List.length_append, HES.out]; rfl) (by omega) HLOG.out; have k12 : w9.cell? ⟨g, 12, none⟩ = some (.pointer (some ⟨q.gl, 0, none⟩)) := ht9.at_.cell12; have HT9 := Lib.hid ht9; have HADD := Lib.hid hadd; clear hs9 hc9 ho9 ht9 hadd)
    | (refine step_append_sl _ (by rfl) (.tmp 78) (.tmp 82) _ (by rfl) Tryz.underlying141 he he0 he1 he2 rfl (by omega) HS8.out (by first | (simp [Act.eval]; done) | simp [Act.eval, Act.put]) wg.heap.size #[.int .i64 mod, .int .i64 2, .int .i64 id, .int .i64 2] (e' := 144) (fr := (0, 0)) HL8.out 1 1 (by first | (simp [Act.eval]; done) | simp [Act.eval, Act.put]) (by rfl) (by simp [Value.oneCell']) (by unfold maxLen; omega) (by omega) ?_; intro v2 h2 w9 hs9 hc9 ho9; obtain ⟨A10, c10, rfl, _, _⟩ := hs9.form; obtain ⟨ht9, hadd⟩ := tailB (e := (es ++ [⟨mod, 2, id, 2⟩])) HST5.out HT8.out HO8.out (Below.refl _ w8) (by rw [flatE_append]; exact hs9) hc9 ho9 (by rw [List.length_append, HES.out]; rfl) (by omega) HLOG.out; have k12 : w9.cell? ⟨g, 12, none⟩ = some (.pointer (some ⟨q.gl, 0, none⟩)) := ht9.at_.cell12; have HT9 := Lib.hid ht9; have HADD := Lib.hid hadd; clear hs9 hc9 ho9 ht9 hadd)
    | (refine step_call (by rfl) (by rfl) (enters_of Tryz.func69 (by kernel_rfl) rfl) (by first | (simp [Act.eval]; done) | simp [Act.eval, Act.put]) HADD.out ?_; rintro e w10 ⟨rfl, q10, ht10⟩; refine ⟨_, rfl, ?_⟩; have HT10 := Lib.hid ht10; clear ht10)
    | fail)
  all_goals exact HQ.out _ _ _ _ _ _ _ _ _ _ _ _ _ _ _ _ (HT9.out.trans HT10.out)

end Go.Proofs.YtgkfknbhkonfdaaGreatDoor

namespace Go.Proofs.YtgkfknbhkonfdaaGreatDoor
open Go.Shelf Go.RowKit
attribute [local go_sem ↓] Go.wp_at_zero Go.wp_at_succ

def AppendOk : Prop := ∀ (w : World) (g : Nat) (q : Lies) (x : Acc) (is : List Int) (vb : Value) (Sb : List Nat) (ks : Texts) (vk : Value) (Sk : List Nat) (at_ : Int) (t : List UInt8), AppIn w g q x is vb Sb ks vk Sk t →
  Calls Tryz.prog 20 #[.pointer (some ⟨g, 0, none⟩), vb, vk, .int .i64 at_, .string ⟨t.toArray⟩] w (AppOut w g q (appendP headF x is ks at_ t))

theorem keysF_nil : keysF [] = ([], 0) := by simp [keysF, sortB, Lib.compact, Lib.compactUpTo]
/-- Mailbox 1 alone, just laid in a block of its own. -/
theorem one_sl (w : World) : Sl (w.alloc (.cells #[.int .i64 1] 3)) 3 1 (.slice (some ⟨w.heap.size, 0, none⟩) 1 1) (some w.heap.size) 1 ([(1 : Int)].map encI) :=
  ⟨by simp, .inr ⟨w.heap.size, 0, 1, _, rfl, rfl, Blk.new _ _ _, Nat.le_refl _, by unfold maxLen; omega, by simp, by simp⟩⟩
theorem one_in {w : World} {g : Nat} {q : Lies} {x : Acc} (h : StoreAt w g q x) (hf : Fit x) (t : List UInt8) (ht : t.length ≤ 1099511627776) : AppIn (w.alloc (.cells #[.int .i64 1] 3)) g q x [1] (.slice (some ⟨w.heap.size, 0, none⟩) 1 1) [] [] (.slice none 0 0) [] t :=
  ⟨h.alloc _, hf, (one_sl w).reads [] (by simp), by decide, ⟨by simp, .inl ⟨rfl, rfl⟩⟩, by decide, fun s hs => by simp at hs, ht⟩

def exB : BoxP := ⟨1, inboxT, 0, 1, 2, 2⟩
theorem exA : ∃ xA : Acc, appendP headF (newP (cfgN 1000 100 1048576 1073741824 1073741824 10000 200)) [1] [] 0 [97] = (xA, 1, 0) ∧ xA.clock = 2 ∧ xA.boxes = [exB] := by
  have h := appendP_one headF (newP (cfgN 1000 100 1048576 1073741824 1073741824 10000 200)) ⟨1, inboxT, 0, 1, 1, 1⟩ rfl rfl [] (by rw [keysF_nil]) 0 (by decide) (by decide) [97] (by decide) (by decide) (by decide) (by decide)
  exact ⟨_, h, rfl, rfl⟩

end Go.Proofs.YtgkfknbhkonfdaaGreatDoor
