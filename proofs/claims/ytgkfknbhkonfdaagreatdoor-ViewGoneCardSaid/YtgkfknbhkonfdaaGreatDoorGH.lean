/-
  The walk of the store's Append where it brings the email.
  The store's Append, whatever it is asked: what it hands back, and the account behind it, are appendP's.
-/
import Derived.Test.YtgkfknbhkonfdaaGreatDoorGG
import Derived.Deep.QuietTactic
import Derived.BigQuiet
import Derived.Deep.RegionLaw
import Derived.Deep.DrawnRows
import Derived.Deep.DeepCutAuto
import Derived.Deep.CutBlock
namespace Go.Proofs.YtgkfknbhkonfdaaGreatDoor
open Go.Shelf Go.RowKit
attribute [local go_sem ↓] Go.wp_at_zero Go.wp_at_succ

def appRes (x : Acc) (l : List Int) (kl : List Text) (at_ : Int) (t : Text) (th : Int) : Acc × Int × Int :=
  ({ x with clock := x.clock + 1, lastId := x.lastId + 1, boxes := turnBoxes (x.clock + 1) l (numbers l x.boxes).1, octets := x.octets + t.length, mails := x.mails ++ [⟨x.lastId + 1, if th = 0 then x.lastId + 1 else th, t, at_, kl, (numbers l x.boxes).2, x.clock + 1, x.clock + 1⟩], log := x.log.add (turnEnts (x.clock + 1) l ++ [⟨x.clock + 1, 2, x.lastId + 1, 1⟩, ⟨x.clock + 1, 3, if th = 0 then x.lastId + 1 else th, if th = 0 then 1 else 2⟩]) }, x.lastId + 1, 0)

set_option maxRecDepth 100000 in
set_option maxHeartbeats 8000000 in
theorem append_ok (at_ : Int) (w : World) (g : Nat) (q : Lies) (x : Acc) (is : List Int) (vb : Value) (Sb : List Nat) (ks : Texts) (vk : Value) (Sk : List Nat) (t : List UInt8) (h : AppIn w g q x is vb Sb ks vk Sk t) (hgood : ¬ (is = [] ∨ at_ < 0 ∨ 253402300799 < at_)) (hke : (keysF ks).2 = 0) (hwa : (rise is).any (fun id => !hasBox x.boxes id) = false) (hfu1 : ¬ x.cfg.maxMails ≤ (x.mails.length : Int)) (hfu2 : ¬ x.cfg.maxSize - x.octets < (t.length : Int)) (hen : ¬ x.cfg.maxMod ≤ x.clock) (hsp : (rise is).any x.spent = false) :
    Calls Tryz.prog 20 #[.pointer (some ⟨g, 0, none⟩), vb, vk, .int .i64 at_, .string ⟨t.toArray⟩] w (AppOut w g q (appendP headF x is ks at_ t)) := by
  obtain ⟨r, hr⟩ : ∃ r, appendP headF x is ks at_ t = r := ⟨_, rfl⟩
  rw [hr]
  obtain ⟨th, hth⟩ : ∃ th, threadP headF x t = th := ⟨_, rfl⟩
  have hres : r = appRes x (rise is) (keysF ks).1 at_ t th := by
    rw [← hr, ← hth]
    unfold appendP appendK
    rw [if_neg hgood, if_neg (by rw [hke]; simp), if_neg (by rw [hwa]; simp), if_neg (by omega), if_neg (by simp [Acc.ends, hsp]; omega)]
    rfl
  have HRES := Lib.hid hres
  have hcl := h.fit.clock
  have hmo := h.fit.cfg.mod
  have hli := h.fit.lastId
  have htl : t.length ≤ 2147483648 := by
    have h1 := h.fit.octets
    have h2 := h.fit.cfg.size
    have h3 : 0 ≤ x.octets := by
      rw [h1.1]
      exact sizeM_nonneg _
    omega
  have hmt : ∀ m ∈ x.mails, m.text.length ≤ 2147483648 := fun m hm => by
    have h1 := h.fit.octets
    have h2 := h.fit.cfg.size
    have h3 := sizeM_mem hm
    omega
  have hnmb : x.mails.length ≤ 1099511627776 := by
    have h1 := h.fit.nm
    omega
  obtain ⟨Am, cm, hvm, _, _⟩ := h.at_.mails.form
  have hst := fun W (hb : Below w.heap.size w W) => h.at_.later hb
  have k11 := fun W hb => (hst W hb).cell11
  rw [hvm] at k11
  have k2 : ∀ W, Below w.heap.size w W → W.cell? ⟨g, 2, none⟩ = some (.int .i64 x.cfg.maxMails) := fun W hb => (hst W hb).cells 2
  have k4 : ∀ W, Below w.heap.size w W → W.cell? ⟨g, 4, none⟩ = some (.int .i64 x.cfg.maxSize) := fun W hb => (hst W hb).cells 4
  have k6 : ∀ W, Below w.heap.size w W → W.cell? ⟨g, 6, none⟩ = some (.int .i64 x.cfg.maxMod) := fun W hb => (hst W hb).cells 6
  have k9 : ∀ W, Below w.heap.size w W → W.cell? ⟨g, 9, none⟩ = some (.int .i64 x.clock) := fun W hb => (hst W hb).cell9
  have k15 : ∀ W, Below w.heap.size w W → W.cell? ⟨g, 15, none⟩ = some (.int .i64 x.octets) := fun W hb => (hst W hb).cell15
  have hsz := h.fit.cfg.size
  have hoc := h.fit.octets
  have hoc1 : 0 ≤ x.octets := by
    rw [hoc.1]
    exact sizeM_nonneg _
  have hoc2 := hoc.2
  have gw : IntKind.i64.wrap (x.cfg.maxSize - x.octets) = x.cfg.maxSize - x.octets := IntWalk.i64_in _ (by omega)
  obtain ⟨nm, hnm⟩ : ∃ nm, x.mails.length = nm := ⟨_, rfl⟩
  rw [hnm] at k11
  have K11 := Lib.hid k11
  have K2 := Lib.hid k2
  have K4 := Lib.hid k4
  have K6 := Lib.hid k6
  have K9 := Lib.hid k9
  have K15 := Lib.hid k15
  clear hst k11 k2 k4 k6 k9 k15 hsz hoc hvm
  obtain ⟨A, cap, hvb, _, _⟩ := h.boxes.form
  have hgn : is.length ≠ 0 := fun h0 => hgood (.inl (List.eq_nil_of_length_eq_zero h0))
  have hn0 : ((is.length : Int) == 0) = false := by simpa using hgn
  have hg1 : ¬ at_ < 0 := fun h0 => hgood (.inr (.inl h0))
  have hg2 : ¬ 253402300799 < at_ := fun h0 => hgood (.inr (.inr h0))
  have hkc := h.kc
  have hwc := h.wc
  rw [hvb] at hwc ⊢
  have H := Lib.hid h
  clear hvb hgood hgn h
  rw [hwa] at hwc
  rw [hke] at hkc
  have HWC := Lib.hid hwc
  rw [hnm] at hfu1
  clear hres hr
  have HALL := Lib.hid (all_in hwa)
  have HSP := Lib.hid hsp
  have hsc := H.out.sc (all_in hwa)
  rw [hsp] at hsc
  clear hwa hwc hnm
  go_enter Tryz.func20, Tryz.ntmps20
  go_wp2_with (first
    | (go_at_call 61; refine hkc.mono ?_; rintro e w2 ⟨Ak, ck, hhk, rfl, hsk, hbk, hfk⟩; have HSK := Lib.hid hsk; have HBK := Lib.hid hbk; have HFK := Lib.hid hfk; have hwt := HWC.out w2 hbk; clear hkc hsk hbk hfk)
    | (go_at_call 62; refine hwt.mono ?_; rintro e w3 ⟨v3, h3, rfl, hs3, ho3, hb3⟩; clear hwt; obtain ⟨A3, p3, rfl, _, _⟩ := hs3.form; have hbb := below_then HBK.out hb3; have c11 := K11.out w3 hbb; have c2 := K2.out w3 hbb; have c4 := K4.out w3 hbb; have c15 := K15.out w3 hbb; have c6 := K6.out w3 hbb; have c9 := K9.out w3 hbb; have HB3 := Lib.hid hbb; have HK3 := Lib.hid (HSK.out.keep (fun b hb => hb3.block b (HSK.out.lt b hb))); have HS3 := Lib.hid hs3; have HO3 : Hid (∀ b, h3 = some b → w.heap.size ≤ b) := Lib.hid (fun b hb => Nat.le_trans HBK.out.size (ho3 b hb)); clear hs3 ho3 hb3 hbb)
    | fail)
  go_quiet (fail)
  go_wp2_with fail
  go_quiet (fail)
  go_upto_region 19 with (first
    | (go_at_call 63; refine (ends_any g x.clock x.cfg.maxMod _ ((cell_heap (w := w3) (by rfl) _).trans c9) ((cell_heap (w := w3) (by rfl) _).trans c6)).mono ?_; rintro e w4 ⟨rfl, ne, rfl⟩)
    | (go_at_call 64; refine (hsc _ (below_drewN' HB3.out _) _ h3 (HS3.out.heap (by rfl))).mono ?_; rintro e w5 ⟨rfl, hb5⟩; have hb6 := below_dropN hb5; have hb7 := below_then HB3.out hb6; have H5 := Lib.hid (H.out.at_.later hb7); have HB5 := Lib.hid hb7; have HS5 := Lib.hid (HS3.out.keep (fun b hb => hb6.block b (HS3.out.lt b hb))); have HK5 := Lib.hid (HK3.out.keep (fun b hb => hb6.block b (HK3.out.lt b hb))); have hst5 := step_any g x.clock w5 H5.out.cell9 (H5.out.frozen 9) (by omega); clear hb5 hb6 hb7 hsc)
    | (go_at_call 66; refine hst5.mono ?_; rintro e w6 ⟨rfl, hw6⟩; have t6 := H5.out.setStruct 9 (.int .i64 (x.clock + 1)) { x with clock := x.clock + 1 } rfl rfl rfl rfl; rw [← hw6] at t6; have c14 := t6.at_.cell14; have f14 := t6.at_.frozen 14; have T6 := Lib.hid t6; clear hst5 hw6 t6)
    | fail)
  have hllen : (rise is).length ≤ 4294967296 := by
    have h1 := rise_length is
    have h2 := H.out.nb
    omega
  have hbxn := H.out.nbox
  have hnx0 := numbers_next H.out.fit.cfg H.out.fit.idsB H.out.fit.box
  generalize hkl : (keysF ks).1 = kl at HSK HFK HK3 HK5 HRES
  have hnxl : ∀ k (hk : k < (rise is).length), 0 ≤ nextOf (numbers ((rise is).take k) x.boxes).1 (rise is)[k] ∧ nextOf (numbers ((rise is).take k) x.boxes).1 (rise is)[k] ≤ 4294967296 := fun k hk =>
    hnx0 ((rise is).take k) ((rise_nodup is).sublist (List.take_sublist _ _)) (fun i hi => by
      have h1 := (List.any_eq_false.1 HSP.out) i (List.mem_of_mem_take hi)
      have h2 : ¬ x.cfg.maxUid < nextOf x.boxes i := by simpa [Acc.spent] using h1
      omega) _ (HALL.out _ (List.getElem_mem hk))
  have hri : rise (rise is) = rise is := rise_self (rise_sorted is)
  generalize rise is = l at HS3 HS5 HRES HALL hllen hnxl hri
  have HNX := Lib.hid hnxl
  have HRI := Lib.hid hri
  clear hnxl hri hnx0
  obtain ⟨w7, hw7⟩ : ∃ w7 : World, w7 = w6.setCell ⟨g, 14, none⟩ (.int .i64 (x.lastId + 1)) := ⟨_, rfl⟩
  rw [← hw7]
  have t7 : Turned w5 w7 g q { x with clock := x.clock + 1, lastId := x.lastId + 1 } q := by
    rw [hw7]
    exact T6.out.trans (T6.out.at_.setStruct 14 (.int .i64 (x.lastId + 1)) { x with clock := x.clock + 1, lastId := x.lastId + 1 } rfl rfl rfl rfl)
  have T7 := Lib.hid t7
  clear hw7 t7 T6 c14 f14
  have c14 : w7.cell? ⟨g, 14, none⟩ = some (.int .i64 (x.lastId + 1)) := T7.out.at_.cell14
  have hthr : ∀ W, Below w7.heap.size w7 W → Calls Tryz.prog 67 #[.pointer (some ⟨g, 0, none⟩), .string ⟨t.toArray⟩] W fun e w' => e = .returned (.int .i64 th) ∧ Below W.heap.size W w' := fun W hb => by
    have h1 := thread_any W g q { x with clock := x.clock + 1, lastId := x.lastId + 1 } (T7.out.at_.later hb) hnmb hmt t htl
    have h2 : threadP headF { x with clock := x.clock + 1, lastId := x.lastId + 1 } t = th := hth
    rw [h2] at h1
    exact h1
  have HTHR := Lib.hid hthr
  have hoct : 0 ≤ x.octets ∧ x.octets + t.length ≤ 4294967296 := by
    have h2 := H.out.fit.cfg.size
    omega
  have HOCT := Lib.hid hoct
  clear hoct
  try clear c11
  try clear c2
  try clear c4
  try clear c15
  try clear c6
  try clear c9
  try clear K11
  try clear K2
  try clear K4
  try clear K6
  try clear K9
  try clear K15
  try clear HB3
  try clear HS3
  try clear HSK
  try clear HK3
  try clear HBK
  try clear HWC
  try clear hfu1
  try clear hfu2
  try clear hen
  try clear gw
  try clear hn0
  try clear hg1
  try clear hg2
  try clear hoc1
  try clear hoc2
  try clear hres
  try clear hcl
  try clear hmo
  try clear hli
  try clear htl
  try clear hmt
  try clear hnmb
  try clear hth
  try clear hkl
  try clear hthr
  have hg7 : g < w7.heap.size := T7.out.at_.blk.lt
  have c14a := (World.cell?_alloc_lt w7 (.cells #[.int .i64 0, .int .i64 0, .string ⟨#[]⟩, .int .i64 0, .slice none 0 0, .slice none 0 0, .int .i64 0, .int .i64 0] 90) ⟨g, 14, none⟩ hg7).trans c14
  go_cut [17] (fun p wx => ∃ B, p = .pointer (some ⟨B, 0, none⟩) ∧ Hid (Turned w5 wx g q { x with clock := x.clock + 1, lastId := x.lastId + 1 } q) ∧ Hid (Blk wx B 90 #[.int .i64 (x.lastId + 1), .int .i64 th, .string ⟨t.toArray⟩, .int .i64 at_, .slice Ak kl.length ck, .slice none 0 0, .int .i64 (x.clock + 1), .int .i64 (x.clock + 1)]) ∧ Hid (w5.heap.size ≤ B))
  case first =>
    go_region_with (first
      | (go_at_call 67; refine (HTHR.out _ (below_drew1 _)).mono ?_; rintro e w8 ⟨rfl, hb8⟩; have hb9 := below_drop hb8; have k14 : w8.cell? ⟨g, 14, none⟩ = some (.int .i64 (x.lastId + 1)) := (T7.out.at_.later hb9).cell14; have hg8 : g < w8.heap.size := Nat.lt_of_lt_of_le hg7 hb9.size; have k14a := (World.cell?_alloc_lt w8 (.cells #[.int .i64 0, .int .i64 0, .string ⟨#[]⟩, .int .i64 0, .slice none 0 0, .slice none 0 0, .int .i64 0, .int .i64 0] 90) ⟨g, 14, none⟩ hg8).trans k14; have HB9 := Lib.hid hb9; clear hb8 hb9)
      | (go_at_call 67; refine (HTHR.out _ (below_then (below_alloc1 _ _) (below_drew1 _))).mono ?_; rintro e w8 ⟨rfl, hb8⟩; have hb9 := below_drop hb8; have hz := (Blk.new w7 90 #[.int .i64 0, .int .i64 0, .string ⟨#[]⟩, .int .i64 0, .slice none 0 0, .slice none 0 0, .int .i64 0, .int .i64 0]).below hb9 (by simp); have z0 : w8.cell? ⟨w7.heap.size, 0, none⟩ = some (.int .i64 0) := hz.cell 0; have fz0 := hz.frozen 0; have z1 : w8.cell? ⟨w7.heap.size, 1, none⟩ = some (.int .i64 0) := hz.cell 1; have fz1 := hz.frozen 1; have z2 : w8.cell? ⟨w7.heap.size, 2, none⟩ = some (.string ⟨#[]⟩) := hz.cell 2; have fz2 := hz.frozen 2; have z3 : w8.cell? ⟨w7.heap.size, 3, none⟩ = some (.int .i64 0) := hz.cell 3; have fz3 := hz.frozen 3; have z4 : w8.cell? ⟨w7.heap.size, 4, none⟩ = some (.slice none 0 0) := hz.cell 4; have fz4 := hz.frozen 4; have z5 : w8.cell? ⟨w7.heap.size, 5, none⟩ = some (.slice none 0 0) := hz.cell 5; have fz5 := hz.frozen 5; have z6 : w8.cell? ⟨w7.heap.size, 6, none⟩ = some (.int .i64 0) := hz.cell 6; have fz6 := hz.frozen 6; have z7 : w8.cell? ⟨w7.heap.size, 7, none⟩ = some (.int .i64 0) := hz.cell 7; have fz7 := hz.frozen 7; have HB9 := Lib.hid (below_then (below_alloc1 _ _) hb9); have k14 : w8.cell? ⟨g, 14, none⟩ = some (.int .i64 (x.lastId + 1)) := (T7.out.at_.later HB9.out).cell14; have HZ := Lib.hid hz; clear hb8 hb9 hz)
      | fail)
    all_goals
      go_wp2_with fail
      go_meet
      first
      | (have hz := HZ.out; exact ⟨w7.heap.size, rfl, Lib.hid ((T7.out.then_below HB9.out).newer H5.out (S := [w7.heap.size]) (((((((((Chg.refl [w7.heap.size] w8).set (.inl (by simp)) _).set (.inl (by simp)) _).set (.inl (by simp)) _).set (.inl (by simp)) _).set (.inl (by simp)) _).set (.inl (by simp)) _).set (.inl (by simp)) _).set (.inl (by simp)) _) (fun k hk => by simp at hk; have h1 := T7.out.chg.size; omega)), Lib.hid ((((((((hz.set 0 _).set 1 _).set 2 _).set 3 _).set 4 _).set 5 _).set 6 _).set 7 _), Lib.hid T7.out.chg.size⟩)
      | (exact ⟨w8.heap.size, rfl, Lib.hid ((T7.out.then_below HB9.out).then_below (below_alloc1 _ _)), Lib.hid (Blk.new w8 _ _), Lib.hid (by have h1 := T7.out.chg.size; have h2 := HB9.out.size; omega)⟩)
  case rest =>
    obtain ⟨B, rfl, T8, BM, HBs⟩ := hcut
    obtain ⟨wm, rfl⟩ : ∃ wm : World, wm = wc := ⟨_, rfl⟩
    have b0 : wm.cell? ⟨B, 0, none⟩ = some (.int .i64 (x.lastId + 1)) := BM.out.cell 0
    have b1 : wm.cell? ⟨B, 1, none⟩ = some (.int .i64 th) := BM.out.cell 1
    have fb1 : wm.frozen? ⟨B, 1, none⟩ = false := BM.out.frozen 1
    clear c14 HTHR
    go_upto_if 107 with (fail)
    go_cut [18] (fun hw wx => hw = .int .i64 (if th = 0 then 1 else 2) ∧ Hid (Chg [B] wm wx) ∧ Hid (Blk wx B 90 #[.int .i64 (x.lastId + 1), .int .i64 (if th = 0 then x.lastId + 1 else th), .string ⟨t.toArray⟩, .int .i64 at_, .slice Ak kl.length ck, .slice none 0 0, .int .i64 (x.clock + 1), .int .i64 (x.clock + 1)]))
    case first =>
      by_cases h0 : th = 0
      · subst h0
        go_wp2_with fail
        go_meet
        exact ⟨rfl, Lib.hid ((Chg.refl [B] wm).set (.inl (by simp)) _), Lib.hid (BM.out.set 1 _)⟩
      · have h0q : (th == 0) = false := by simpa using h0
        have e1 : (if th = 0 then (1 : Int) else 2) = 2 := if_neg h0
        have e2 : (if th = 0 then x.lastId + 1 else th) = th := if_neg h0
        have E1 := Lib.hid e1
        have E2 := Lib.hid e2
        clear e1 e2
        go_wp2_with fail
        go_meet
        exact ⟨by rw [E1.out], Lib.hid (Chg.refl _ _), Lib.hid (by rw [E2.out]; exact BM.out)⟩
    case rest =>
      obtain ⟨rfl, HC9, BM9⟩ := hcut
      obtain ⟨wn, rfl⟩ : ∃ wn : World, wn = wc := ⟨_, rfl⟩
      obtain ⟨th2, hth2⟩ : ∃ th2, (if th = 0 then x.lastId + 1 else th) = th2 := ⟨_, rfl⟩
      obtain ⟨how, hhow⟩ : ∃ how : Int, (if th = 0 then (1 : Int) else 2) = how := ⟨_, rfl⟩
      rw [hth2] at BM9
      rw [hhow]
      have HTH := Lib.hid hth2
      have HHOW := Lib.hid hhow
      have T9 : Hid (Turned w5 wn g q { x with clock := x.clock + 1, lastId := x.lastId + 1 } q) := Lib.hid (T8.out.newer H5.out HC9.out (fun k hk => by simp at hk; have := HBs.out; omega))
      have HS9 := Lib.hid (HS5.out.fresh HO3.out H.out.at_ T9.out.chg)
      clear b0 b1 fb1 HC9 BM T8 hth2 hhow
      obtain ⟨i0, hi, hz0, hz1, hz2⟩ := info_parts Try.infoMember2
      obtain ⟨nl, hnl⟩ : ∃ nl, l.length = nl := ⟨_, rfl⟩
      rw [hnl] at HS5 HS9 ⊢
      have HNL := Lib.hid hnl
      have hnlb : nl ≤ 4294967296 := by rw [← hnl]; exact hllen
      have HR0 : Hid (NumRel w w5 wn g q { x with clock := x.clock + 1, lastId := x.lastId + 1 } l B (.int .i64 (x.lastId + 1)) (.int .i64 th2) (.string ⟨t.toArray⟩) (.int .i64 at_) (.slice Ak kl.length ck) (.int .i64 (x.clock + 1)) (.int .i64 (x.clock + 1)) 0 (.slice none 0 0)) := Lib.hid ⟨by
        have h1 := (Turned.of_below H.out.at_ HB5.out).trans T9.out
        exact h1, T9.out.chg, BM9.out, ⟨none, Sl.nil _ _ _, fun b hb => by cases hb⟩⟩
      clear hnl
      go_upto_block 1 with (fail)
      go_cut [] (fun wx => ∃ A9 c9, Hid (NumRel w w5 wx g q { x with clock := x.clock + 1, lastId := x.lastId + 1 } l B (.int .i64 (x.lastId + 1)) (.int .i64 th2) (.string ⟨t.toArray⟩) (.int .i64 at_) (.slice Ak kl.length ck) (.int .i64 (x.clock + 1)) (.int .i64 (x.clock + 1)) nl (.slice A9 nl c9)))
      case first =>
        go_wp2_with fail
        go_loopw [113] (fun i wr => ∃ (k : Nat) (A9 : Option Addr) (c9 : Nat), k ≤ nl ∧ i = .int .i64 k ∧ Hid (NumRel w w5 wr g q { x with clock := x.clock + 1, lastId := x.lastId + 1 } l B (.int .i64 (x.lastId + 1)) (.int .i64 th2) (.string ⟨t.toArray⟩) (.int .i64 at_) (.slice Ak kl.length ck) (.int .i64 (x.clock + 1)) (.int .i64 (x.clock + 1)) k (.slice A9 k c9))) (fun i _ => nl - (intOf i).toNat)
        case atStart => exact ⟨0, none, 0, Nat.zero_le _, rfl, HR0⟩
        case round =>
          obtain ⟨k, A9, c9, hk, rfl, HU⟩ := hrel
          by_cases hlt : k < nl
          · have hkl : k < l.length := by rw [HNL.out]; exact hlt
            obtain ⟨b3, off3, cap3', _, hv3, _, _, hb3, hat3⟩ := HS5.out.at_ (by omega)
            injection hv3 with hv1 hv2 hv3
            subst hv1 hv3
            clear hv2
            have hS := HS5.out.fresh HO3.out H.out.at_ HU.out.ch
            obtain ⟨b4, off4, cap4', _, hv4, _, _, hb4, hat4⟩ := hS.at_ (by omega)
            injection hv4 with hv5 hv6 hv7
            injection hv5 with hv8
            injection hv8 with hv9 hv10
            subst hv9 hv10
            have cs : wr.cell? ⟨b3, off3 + k, none⟩ = some (.int .i64 l[k]) := (hat4 k (by omega)).1.trans (by simp [hkl])
            have hid : l[k] ∈ ids (numbers (l.take k) x.boxes).1 := by
              rw [numbers_ids]
              exact HALL.out _ (List.getElem_mem hkl)
            have hnx := HNX.out k hkl
            have hnum := fun W (hb : Below wr.heap.size wr W) => number_any W g q _ (HU.out.st.at_.later hb) (by
              show (numbers (l.take k) x.boxes).1.length ≤ _
              rw [numbers_len]
              exact hbxn) l[k] hid hnx
            obtain ⟨hh, hms, hmf⟩ := HU.out.mem
            have HMS := Lib.hid hms
            have HMF := Lib.hid hmf
            have cB : wr.cell? ⟨B, 5, none⟩ = some (.slice A9 k c9) := HU.out.blk.cell 5
            have fB : wr.frozen? ⟨B, 5, none⟩ = false := HU.out.blk.frozen 5
            have hBl : B < wr.heap.size := HU.out.blk.lt
            obtain ⟨id, hidd⟩ : ∃ id, l[k] = id := ⟨_, rfl⟩
            have hnum2 : ∀ W, Below wr.heap.size wr W → Calls Tryz.prog 68 #[.pointer (some ⟨g, 0, none⟩), .int .i64 id] W fun e w' => e = .returned (.agg #[.int .i64 id, .int .i64 (nextOf (numbers (l.take k) x.boxes).1 l[k])]) ∧ Turned W w' g q { { x with clock := x.clock + 1, lastId := x.lastId + 1 } with boxes := bump l[k] (numbers (l.take k) x.boxes).1 } q := fun W hb => by
              have h1 := hnum W hb
              rw [← hidd]
              exact h1
            have HNUM := Lib.hid hnum2
            have HIDD := Lib.hid hidd
            rw [hidd] at cs
            obtain ⟨nxv, hnxv⟩ : ∃ nxv, nextOf (numbers (l.take k) x.boxes).1 l[k] = nxv := ⟨_, rfl⟩
            rw [hnxv] at HNUM
            have HNXV := Lib.hid hnxv
            clear hat3 hat4 hS hnum hnum2 hms hmf hidd hnxv hnx hid hv6 hv7
            go_wp2_with fail
            go_region_law (first
              | (refine step_call (by rfl) (by rfl) (enters_of Tryz.func68 (by kernel_rfl) rfl) (by simp [Act.eval, Act.put]) (HNUM.out _ (below_drew1 _)) ?_; rintro e w8 ⟨rfl, ht8⟩; refine ⟨_, rfl, ?_⟩; have HT8 : Hid (Turned wr w8 g q { { x with clock := x.clock + 1, lastId := x.lastId + 1 } with boxes := bump l[k] (numbers (l.take k) x.boxes).1 } q) := Lib.hid ((Turned.of_below HU.out.st.at_ (below_drew1 _)).trans ht8); have HM8 := Lib.hid (HMS.out.fresh (fun b hb => Nat.le_trans HB5.out.size (HMF.out b hb)) H.out.at_ HT8.out.chg); have cB8 : w8.cell? ⟨B, 5, none⟩ = some (.slice A9 k c9) := (HU.out.blk.fresh (Nat.le_trans HB5.out.size HBs.out) H.out.at_ HT8.out.chg).cell 5; have fB8 : w8.frozen? ⟨B, 5, none⟩ = false := (HU.out.blk.fresh (Nat.le_trans HB5.out.size HBs.out) H.out.at_ HT8.out.chg).frozen 5; have hB8 : B < w8.heap.size := Nat.lt_of_lt_of_le hBl HT8.out.chg.size; have hhB : B ∉ hh.toList := (fun hm => HM8.out.ne_blk (HU.out.blk.fresh (Nat.le_trans HB5.out.size HBs.out) H.out.at_ HT8.out.chg) (by decide) B (by simpa using hm) rfl); clear ht8)
              | (refine step_append_sl _ (by rfl) (.tmp 118) (.tmp 122) _ (by rfl) Tryz.underlying88 hi hz0 hz1 hz2 rfl (by omega) (HM8.out.alloc _) (by simp [Act.eval]) w8.heap.size #[.int .i64 id, .int .i64 nxv] (e' := 138) (fr := (0, 0)) (heap_alloc_new w8 _) 1 1 (by simp [Act.eval]) (by rfl) (by simp [Value.oneCell']) (by unfold maxLen; omega) (by omega) ?_; intro v2 h2 w9 hs9 hc9 ho9; obtain ⟨A10, c10, rfl, _, _⟩ := hs9.form; have fB9 : w9.frozen? ⟨B, 5, none⟩ = false := (hc9.frozen (p := ⟨B, 5, none⟩) (by simp; omega) hhB).trans ((World.frozen?_alloc_past _ _ _ hB8).trans fB8); have cB9 : w9.cell? ⟨B, 5, none⟩ = some (.slice A9 k c9) := (hc9.cell (p := ⟨B, 5, none⟩) (by simp; omega) hhB).trans ((World.cell?_alloc_past _ _ _ hB8).trans cB8))
              | fail)
            all_goals
              have HREL := Lib.hid (HU.out.next (mv' := .slice A10 (k + 1) c10) H.out.at_ HBs.out HB5.out.size hkl (HT8.out.then_below (below_alloc1 _ _)) (HM8.out.alloc _) HMF.out (by rw [HIDD.out, show nextOf (numbers (l.take k) x.boxes).1 id = nxv from by rw [← HIDD.out]; exact HNXV.out]; exact hs9) hc9 ho9)
              clear hs9 hc9 ho9
              go_wp2_with fail
              refine ⟨?_, by simp [intOf]; omega⟩
              first | exact ⟨k + 1, _, _, by omega, by go_num, HREL⟩ | ((repeat apply Exists.intro); exact ⟨⟨k + 1, _, _, by omega, by go_num, HREL⟩, rfl⟩)
          · have hkn : k = nl := by omega
            subst hkn
            go_wp2_with fail
            go_meet
            exact ⟨A9, c9, HU⟩
      case rest =>
        obtain ⟨A9, c9, HU⟩ := hcut
        obtain ⟨we, rfl⟩ : ∃ we : World, we = wc := ⟨_, rfl⟩
        have htk : l.take nl = l := List.take_of_length_le (by rw [HNL.out]; exact Nat.le_refl _)
        have hst3 : Turned w we g q { { x with clock := x.clock + 1, lastId := x.lastId + 1 } with boxes := (numbers l x.boxes).1 } q := by
          have h1 := HU.out.st
          rw [htk] at h1
          exact h1
        obtain ⟨hmm, hms, hmf⟩ := HU.out.mem
        rw [htk] at hms
        have hch := HU.out.ch
        have hbl := HU.out.blk
        have hks := HK5.out.fresh HFK.out H.out.at_ hch
        obtain ⟨mm, hmmm⟩ : ∃ mm : MailM, mm = ⟨⟨x.lastId + 1, th2, t, at_, kl, (numbers l x.boxes).2, x.clock + 1, x.clock + 1⟩, .slice Ak kl.length ck, .slice A9 nl c9⟩ := ⟨_, rfl⟩
        have hnum2 : (numbers l x.boxes).2.length = nl := by rw [numbers_len2, HNL.out]
        have hpart : PartAt we (q.own g) mm := by
          rw [hmmm]
          refine ⟨hks.reads _ (fun b hb hm => ?_), ?_, hks.ty, hms.ty⟩
          · have h1 := H.out.at_.lt b hm
            have h2 := HFK.out b hb
            omega
          · have h3 : Sl we 138 2 (.slice A9 nl c9) hmm (numbers l x.boxes).2.length (flatG encMem (numbers l x.boxes).2) := by
              rw [hnum2]
              exact hms
            refine h3.reads _ (fun b hb hm => ?_)
            have h1 := H.out.at_.lt b hm
            have h2 := hmf b hb
            have h4 := HB5.out.size
            omega
        have hmc : encM mm = [.int .i64 (x.lastId + 1), .int .i64 th2, .string ⟨t.toArray⟩, .int .i64 at_, .slice Ak kl.length ck, .slice A9 nl c9, .int .i64 (x.clock + 1), .int .i64 (x.clock + 1)] := by
          rw [hmmm]
          rfl
        have hmp : mm.p = ⟨x.lastId + 1, th2, t, at_, kl, (numbers l x.boxes).2, x.clock + 1, x.clock + 1⟩ := by rw [hmmm]
        obtain ⟨Am, cm, hvm, _, _⟩ := H.out.at_.mails.form
        have hml : Sl we 90 8 (.slice Am x.mails.length cm) q.hm x.mails.length (flatG encM q.ms) := by
          rw [← hvm]
          exact hst3.at_.mails
        obtain ⟨nm, hnm⟩ : ∃ nm, x.mails.length = nm := ⟨_, rfl⟩
        rw [hnm] at hml
        have hnmb : nm ≤ 4294967296 := by
          have h1 := H.out.fit.nm
          have h2 := H.out.fit.clock
          have h3 := H.out.fit.cfg.mod
          omega
        have c11 : we.cell? ⟨g, 11, none⟩ = some (.slice Am nm cm) := by
          rw [← hnm, ← hvm]
          exact hst3.at_.cell11
        have f11 : we.frozen? ⟨g, 11, none⟩ = false := hst3.at_.frozen 11
        have hgl : g < we.heap.size := hst3.at_.blk.lt
        have b0 : we.cell? ⟨B, 0, none⟩ = some (.int .i64 (x.lastId + 1)) := hbl.cell 0
        have b1 : we.cell? ⟨B, 1, none⟩ = some (.int .i64 th2) := hbl.cell 1
        have b2 : we.cell? ⟨B, 2, none⟩ = some (.string ⟨t.toArray⟩) := hbl.cell 2
        have b3 : we.cell? ⟨B, 3, none⟩ = some (.int .i64 at_) := hbl.cell 3
        have b4 : we.cell? ⟨B, 4, none⟩ = some (.slice Ak kl.length ck) := hbl.cell 4
        have b5 : we.cell? ⟨B, 5, none⟩ = some (.slice A9 nl c9) := hbl.cell 5
        have b6 : we.cell? ⟨B, 6, none⟩ = some (.int .i64 (x.clock + 1)) := hbl.cell 6
        have b7 : we.cell? ⟨B, 7, none⟩ = some (.int .i64 (x.clock + 1)) := hbl.cell 7
        obtain ⟨j0, hj, hj0, hj1, hj2⟩ := info_parts Try.infoMail
        have HML := Lib.hid hml
        have HST3 := Lib.hid hst3
        have HPART := Lib.hid hpart
        have HMC := Lib.hid hmc
        have HMP := Lib.hid hmp
        have HCH := Lib.hid hch
        have HBL := Lib.hid hbl
        have HNM := Lib.hid hnm
        have HVM := Lib.hid hvm
        have hgh : g ∉ q.hm.toList := fun hm => HST3.out.at_.apart.hm (by simpa using hm)
        clear hml hst3 hpart hmc hmp hch hbl hks hms hmf hmmm htk hnm hvm hnum2 HU HK5 HFK HNX
        go_upto_region 28 with (fail)
        go_cut [] (fun wx => ∃ q', Hid (Turned w wx g q { { x with clock := x.clock + 1, lastId := x.lastId + 1 } with boxes := (numbers l x.boxes).1, mails := x.mails ++ [mm.p] } q') ∧ Hid (Chg (q.own g) w5 wx) ∧ Hid (Chg (q.own g) we wx) ∧ Hid (B ∉ q'.own g))
        case first =>
          go_region_law (first
            | (refine step_append_sl _ (by rfl) (.tmp 130) (.tmp 132) _ (by rfl) Tryz.underlying121 hj hj0 hj1 hj2 rfl (by omega) ((HML.out.alloc _).heap (by rfl)) (by first | (simp [Act.eval]; done) | simp [Act.eval, Act.put]) we.heap.size #[.int .i64 (x.lastId + 1), .int .i64 th2, .string ⟨t.toArray⟩, .int .i64 at_, .slice Ak kl.length ck, .slice A9 nl c9, .int .i64 (x.clock + 1), .int .i64 (x.clock + 1)] (e' := 90) (fr := (0, 0)) (heap_alloc_new we _) 1 1 (by first | (simp [Act.eval]; done) | simp [Act.eval, Act.put]) (by rfl) (by simp [Value.oneCell']) (by unfold maxLen; omega) (by omega) ?_; intro v2 h2 w9 hs9 hc9 ho9; obtain ⟨A10, c10, rfl, _, _⟩ := hs9.form; have e11 : w9.cell? ⟨g, 11, none⟩ = some (.slice Am nm cm) := (hc9.cell (p := ⟨g, 11, none⟩) (by simp; omega) hgh).trans ((World.cell?_alloc_past _ _ _ hgl).trans c11); have g11 : w9.frozen? ⟨g, 11, none⟩ = false := (hc9.frozen (p := ⟨g, 11, none⟩) (by simp; omega) hgh).trans ((World.frozen?_alloc_past _ _ _ hgl).trans f11))
            | fail)
          all_goals
            have hpush := (HST3.out.at_.alloc (.cells #[.int .i64 (x.lastId + 1), .int .i64 th2, .string ⟨t.toArray⟩, .int .i64 at_, .slice Ak kl.length ck, .slice A9 nl c9, .int .i64 (x.clock + 1), .int .i64 (x.clock + 1)] 90)).pushMail mm (HPART.out.step (Chg.of_below (below_alloc1 we _) _) (fun k hk => .inl hk)) (v' := .slice A10 (nm + 1) c10) (h' := h2) (w' := w9) (by
              show Sl w9 _ 8 _ h2 (x.mails.length + 1) _
              rw [HNM.out, HMC.out]
              exact hs9) ⟨hc9.os, hc9.tape, hc9.output, hc9.size, hc9.block⟩ ho9
            have HPUSH := Lib.hid hpush
            clear hpush hs9 hc9 ho9
            go_wp2_with fail
            go_meet
            exact ⟨_, Lib.hid ((HST3.out.then_below (below_alloc1 we _)).trans HPUSH.out), Lib.hid ((HCH.out.alloc _).trans HPUSH.out.chg (fun i hi => .inl hi)), Lib.hid (((Chg.refl _ we).alloc _).trans HPUSH.out.chg (fun i hi => .inl hi)), Lib.hid (fun hm => by
              rcases HPUSH.out.own B hm with h1 | h1
              · have h2 := H.out.at_.lt B h1
                have h3 := HB5.out.size
                have h4 := HBs.out
                omega
              · have h2 := HBL.out.lt
                rw [World.size_alloc] at h1
                omega)⟩
        case rest =>
          obtain ⟨q', HT4, HC4, HC4B, HBQ⟩ := hcut
          obtain ⟨wf, rfl⟩ : ∃ wf : World, wf = wc := ⟨_, rfl⟩
          obtain ⟨x4, hx4⟩ : ∃ x4 : Acc, x4 = { { x with clock := x.clock + 1, lastId := x.lastId + 1 } with boxes := (numbers l x.boxes).1, mails := x.mails ++ [mm.p] } := ⟨_, rfl⟩
          rw [← hx4] at HT4
          have ho4 : x4.octets = x.octets := by rw [hx4]
          have hb4 : x4.boxes = (numbers l x.boxes).1 := by rw [hx4]
          have hl4 : x4.log = x.log := by rw [hx4]
          have HX4 := Lib.hid hx4
          clear hx4
          have hsi := HS5.out.fresh HO3.out H.out.at_ HC4.out
          have hbm := HBL.out.fresh (Nat.le_trans HB5.out.size HBs.out) H.out.at_ HC4B.out
          have c15 : wf.cell? ⟨g, 15, none⟩ = some (.int .i64 x.octets) := by rw [← ho4]; exact HT4.out.at_.cell15
          have f15 : wf.frozen? ⟨g, 15, none⟩ = false := HT4.out.at_.frozen 15
          have hoct := HOCT.out
          have g15 : IntKind.i64.wrap (x.octets + (t.length : Int)) = x.octets + (t.length : Int) := IntWalk.i64_in _ (by omega)
          have HSI := Lib.hid hsi
          have HBM := Lib.hid hbm
          have HO4 := Lib.hid ho4
          have HB4 := Lib.hid hb4
          have HL4 := Lib.hid hl4
          clear hsi hbm c11 f11 hgl b0 b1 b2 b3 b4 b5 b6 b7 hgh HML HST3 HPART HMC HCH HBL HNM HVM hoct ho4 hb4 hl4
          go_upto_region 30 with (fail)
          obtain ⟨wg, hwg⟩ : ∃ wg : World, wg = wf.setCell ⟨g, 15, none⟩ (.int .i64 (x.octets + t.length)) := ⟨_, rfl⟩
          rw [← hwg]
          have HWG := Lib.hid hwg
          clear hwg c15 f15 g15 HOCT
          have hT5 : Turned wf wg g q' { x4 with octets := x.octets + t.length } q' := by
            rw [HWG.out]
            exact HT4.out.at_.setOctets _
          have hbm : Blk wg B 90 #[.int .i64 (x.lastId + 1), .int .i64 th2, .string ⟨t.toArray⟩, .int .i64 at_, .slice Ak kl.length ck, .slice A9 nl c9, .int .i64 (x.clock + 1), .int .i64 (x.clock + 1)] := by
            rw [HWG.out]
            exact HBM.out.far (p := ⟨g, 15, none⟩) (fun e => HBQ.out (by rw [e]; exact Lies.own_g)) _
          have hsi : Sl wg 3 1 (.slice A3 nl p3) h3 nl (l.map encI) := by
            rw [HWG.out]
            refine HSI.out.far (p := ⟨g, 15, none⟩) (fun e => ?_) _
            have h1 := H.out.at_.blk.lt
            have h2 : w.heap.size ≤ g := HO3.out g e
            omega
          have HT5 := Lib.hid (HT4.out.trans hT5)
          have HST5 := Lib.hid hT5.at_
          have HBM5 := Lib.hid hbm
          have HSI5 := Lib.hid hsi
          clear hT5 hbm hsi HSI HBM HC4 HC4B
          have htu : ∀ W, Below wg.heap.size wg W → Calls Tryz.prog 70 #[.pointer (some ⟨g, 0, none⟩), .int .i64 (x.clock + 1), .slice A3 nl p3] W fun e w' => ∃ v' hh, e = .returned v' ∧ Sl w' 144 4 v' hh nl (flatE (turnEnts (x.clock + 1) l)) ∧ (∀ b, hh = some b → W.heap.size ≤ b) ∧ Turned W w' g q' { { x4 with octets := x.octets + t.length } with boxes := turnBoxes (x.clock + 1) l x4.boxes } q' := fun W hb => by
            have h2 : Sl W 3 1 (.slice A3 nl p3) h3 nl (l.map encI) := HSI5.out.keep (fun b hb2 => hb.block b (HSI5.out.lt b hb2))
            have h3 : RdS W [] 1 (.slice A3 nl p3) l.length (l.map encI) := by
              rw [HNL.out]
              exact h2.reads [] (by simp)
            have h4 : x4.boxes.length ≤ 1099511627776 := by
              rw [HB4.out, numbers_len]
              exact hbxn
            have h5 : ∀ i ∈ l, i ∈ ids x4.boxes := fun i hi => by
              rw [HB4.out, numbers_ids]
              exact HALL.out i hi
            have h1 := turned_any W g q' { x4 with octets := x.octets + t.length } (HST5.out.later hb) h4 (x.clock + 1) l (.slice A3 nl p3) [] h3 (Nat.le_trans hllen (by decide)) h5
            rw [HRI.out, HNL.out] at h1
            exact h1
          have HTU := Lib.hid htu
          clear htu
          have c12 : wg.cell? ⟨g, 12, none⟩ = some (.pointer (some ⟨q'.gl, 0, none⟩)) := HST5.out.cell12
          have b0 : wg.cell? ⟨B, 0, none⟩ = some (.int .i64 (x.lastId + 1)) := HBM5.out.cell 0
          have b1 : wg.cell? ⟨B, 1, none⟩ = some (.int .i64 th2) := HBM5.out.cell 1
          have hBl : B < wg.heap.size := HBM5.out.lt
          have hgl : g < wg.heap.size := HST5.out.blk.lt
          obtain ⟨e0, he, he0, he1, he2⟩ := info_parts Try.infoEntry
          go_cut [] (fun wx => ∃ q'', Hid (Turned w wx g q { { x4 with octets := x.octets + t.length } with boxes := turnBoxes (x.clock + 1) l x4.boxes, log := x.log.add (turnEnts (x.clock + 1) l ++ [⟨x.clock + 1, 2, x.lastId + 1, 1⟩, ⟨x.clock + 1, 3, th2, how⟩]) } q'') ∧ wx.cell? ⟨B, 0, none⟩ = some (.int .i64 (x.lastId + 1)))
          case first =>
            have hlogm : 1 ≤ x4.log.most ∧ x4.log.most ≤ 1099511627776 ∧ x4.log.es.length ≤ 1099511627776 := by
              rw [HL4.out]
              have h1 := H.out.fit.log
              have h2 := H.out.fit.cfg.log
              rw [h1.1]
              omega
            have HLOG := Lib.hid hlogm
            clear hlogm
            refine app_tell wg g B q' { x4 with octets := x.octets + t.length } { { x4 with octets := x.octets + t.length } with boxes := turnBoxes (x.clock + 1) l x4.boxes } (x.clock + 1) (x.lastId + 1) th2 how nl A3 p3 (turnEnts (x.clock + 1) l) _ _ _ _ _ _ _ _ _ _ _ _ _ _ _ _ _ _ _ _ _ _ _ _ _ _ _ _ _ _ _ _ _ _ _ _ _ _ _ _ _ _ _ _ _ _ _ _ _ _ _ _ _ _ _ _ _ _ _ _ _ _ _ _ _ _ _ _ _ _ _ _ _ _ _ _ _ _ _ _ _ _ _ _ _ _ _ _ _ _ _ _ _ _ _ _ _ _ _ _ _ _ _ _ _ _ _ _ _ _ _ _ _ _ _ _ _ _ _ _ _ _ _ _ _ _ _ _ _ _ _ _ _ _ _ _ _ _ _ _ _ _ _ _ _ _ _ _ _ _ _ _ _ _ _ _ _ _ _ _ _ _ _ _ _ _ HST5.out HBM5.out b0 b1 HBQ.out (by rw [turnEnts_length, HNL.out]) (by omega) HLOG.out HTU.out ?_
            intro v145 v146 v147 v148 v149 v150 v151 v152 v153 v154 v155 v156 v157 v158 v159 v160 v161 v162 v163 v164 wx q10 ht10 hb10
            have hz0 : wx.cell? ⟨B, 0, none⟩ = some (.int .i64 (x.lastId + 1)) := hb10.cell 0
            have HZ0 := Lib.hid hz0
            have HT10 := Lib.hid ht10
            clear hz0 ht10 hb10
            go_wp2_with fail
            go_meet
            exact ⟨q10, Lib.hid (by
              have h1 := HT5.out.trans HT10.out
              rw [← HL4.out]
              exact h1), HZ0.out⟩
          case rest =>
            obtain ⟨q'', HT7, hb0⟩ := hcut
            obtain ⟨wz, rfl⟩ : ∃ wz : World, wz = wc := ⟨_, rfl⟩
            have HFIN : Hid (AppOut w g q r (.returned (.tuple #[.int .i64 (x.lastId + 1), .int .i64 0])) wz) := Lib.hid (by
              rw [HRES.out]
              refine ⟨rfl, q'', ?_⟩
              have h1 := HT7.out
              rw [HX4.out, HMP.out] at h1
              unfold appRes
              rw [HTH.out, HHOW.out]
              exact h1)
            go_wp2_with fail
            go_ret2
            exact HFIN.out

end Go.Proofs.YtgkfknbhkonfdaaGreatDoor

namespace Go.Proofs.YtgkfknbhkonfdaaGreatDoor
open Go.Shelf Go.RowKit

theorem append_said (w : World) (g : Nat) (q : Lies) (x : Acc) (is : List Int) (vb : Value) (Sb : List Nat) (ks : Texts) (vk : Value) (Sk : List Nat) (at_ : Int) (t : List UInt8) (h : AppIn w g q x is vb Sb ks vk Sk t) :
    Calls Tryz.prog 20 #[.pointer (some ⟨g, 0, none⟩), vb, vk, .int .i64 at_, .string ⟨t.toArray⟩] w (AppOut w g q (appendP headF x is ks at_ t)) := by
  by_cases h1 : is = [] ∨ at_ < 0 ∨ 253402300799 < at_
  · exact append_bad at_ w g q x is vb Sb ks vk Sk t h h1
  by_cases h2 : (keysF ks).2 = 0
  case neg => exact append_keys at_ w g q x is vb Sb ks vk Sk t h h1 h2
  cases h3 : (rise is).any (fun id => !hasBox x.boxes id) with
  | true => exact append_name at_ w g q x is vb Sb ks vk Sk t h h1 h2 h3
  | false =>
    by_cases h4 : x.cfg.maxMails ≤ (x.mails.length : Int)
    · exact append_full1 at_ w g q x is vb Sb ks vk Sk t h h1 h2 h3 h4
    by_cases h5 : x.cfg.maxSize - x.octets < (t.length : Int)
    · exact append_full2 at_ w g q x is vb Sb ks vk Sk t h h1 h2 h3 h4 h5
    by_cases h6 : x.cfg.maxMod ≤ x.clock
    · exact append_ends at_ w g q x is vb Sb ks vk Sk t h h1 h2 h3 h4 h5 h6
    cases h7 : (rise is).any x.spent with
    | true => exact append_spent at_ w g q x is vb Sb ks vk Sk t h h1 h2 h3 h4 h5 h6 h7
    | false => exact append_ok at_ w g q x is vb Sb ks vk Sk t h h1 h2 h3 h4 h5 h6 h7

end Go.Proofs.YtgkfknbhkonfdaaGreatDoor
