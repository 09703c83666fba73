/-
  What the view's laws share: an account and a view of the law's own, and what acts and updates do to them; begun without acts; the example.
  The walk of the view laws' example.
-/
import Derived.Test.YtgkfknbhkonfdaaGreatDoorUpdateVM
import Derived.Test.YtgkfknbhkonfdaaGreatDoorGVD
import Derived.Test.YtgkfknbhkonfdaaGreatDoorGVA
import Derived.Test.YtgkfknbhkonfdaaGreatDoorGZ
import Derived.Test.YtgkfknbhkonfdaaGreatDoorGH
import Derived.Test.YtgkfknbhkonfdaaGreatDoorGF
namespace Go.Proofs.YtgkfknbhkonfdaaGreatDoor
open Go.Shelf Go.RowKit Go.Lib
attribute [local go_sem ↓] Go.wp_at_zero Go.wp_at_succ

theorem Fit.smallV {x : Acc} (h : Fit x) : SmallM x := by
  have h1 := h.nm
  have h2 := h.clock
  have h3 := h.cfg.mod
  exact ⟨by omega, fun m hm => ⟨by have := (h.mail m hm).keys; omega, by have := h.nmem hm; omega⟩⟩

set_option maxRecDepth 100000 in
set_option maxHeartbeats 2000000 in
theorem begun_any (w : World) : Calls Tryz.prog 11 #[.slice none 0 0] w fun e w' => ∃ g q g2, e = .returned (.tuple #[.pointer (some ⟨g, 0, none⟩), .pointer (some ⟨g2, 0, none⟩)]) ∧ OwnStore w w' g q (newP wideP) := by
  have hW := fun W => wide_any W
  have hN := fun W => newA_any 1000 100 1048576 1073741824 1073741824 10000 200 (by unfold lim; omega) (by unfold lim; omega) (by unfold lim; omega) (by unfold lim; omega) (by unfold lim; omega) (by unfold lim; omega) (by unfold lim; omega) W
  have hR := fun W => refNew_num [117] [112] (by decide) (by decide) 1000 100 1048576 1073741824 1073741824 10000 200 7 (by omega) (fun j hj => by
    have : j = 0 ∨ j = 1 ∨ j = 2 ∨ j = 3 ∨ j = 4 ∨ j = 5 ∨ j = 6 := by omega
    rcases this with rfl | rfl | rfl | rfl | rfl | rfl | rfl <;> (unfold lim; decide)) (fun h => by omega) true (by decide) W
  have hNu := fun W n => num_any W n
  have HW := Lib.hid hW
  have HN := Lib.hid hN
  have HR := Lib.hid hR
  have HNU := Lib.hid hNu
  clear hW hN hR hNu
  go_enter Tryz.func11, Tryz.ntmps11
  go_wp2_with (first
    | (go_at_call 35; refine (HN.out _).mono ?_; rintro e w2 ⟨g, q, rfl, ho⟩; have HO := Lib.hid ho; clear ho)
    | (go_at_call 37; refine (HR.out _).mono ?_; rintro e w4 ⟨ho, _⟩; obtain ⟨g2, q2, rfl, ho2⟩ := ho rfl; have HO4 := Lib.hid (HO.out.later (below_then HB3.out ho2.below)); clear ho2 ho)
    | (go_at_call 36; with_reducible refine (HW.out w2).mono ?_; rintro e w3 ⟨rfl, hb3⟩; have HB3 := Lib.hid hb3; clear hb3)
    | (go_at_call 36; with_reducible refine (HW.out w).mono ?_; rintro e w1 ⟨rfl, hb1⟩; have HB1 := Lib.hid hb1; clear hb1)
    | (go_at_call 13; refine (HNU.out _ _).mono ?_; rintro e wn ⟨rfl, rfl⟩)
    | fail)
  have HOO : Hid (OwnStore w w4 g q (newP wideP)) := Lib.hid ⟨HO4.out.at_, below_then HB1.out HO4.out.below, fun k hk => Nat.le_trans HB1.out.size (HO4.out.own k hk)⟩
  go_loopw [8] (fun i wr => i = .int .i64 0 ∧ Hid (OwnStore w wr g q (newP wideP))) (fun _ _ => 0)
  case atStart => exact ⟨rfl, HOO⟩
  case round =>
    obtain ⟨rfl, HU⟩ := hrel
    go_wp2_with fail
    go_ret2
    first | exact ⟨g, q, g2, rfl, HU.out⟩ | exact ⟨g, ⟨g2, rfl⟩, q, HU.out⟩ | exact ⟨g, g2, rfl, q, HU.out⟩ | exact ⟨g, q, HU.out⟩

/-- The emails of the laws: each of mailbox 1 alone, by its own number; few and short keywords. -/
structure MsOk (ms : List MailP) : Prop where
  one : ∀ m ∈ ms, m.members = [(1, m.id)]
  keys : ∀ m ∈ ms, m.keys.length ≤ 100 ∧ ∀ s ∈ m.keys, s.length ≤ 300
  num : ∀ m ∈ ms, m.id ≤ 4294967296 ∧ m.mod ≤ 4294967296
  rising : (ms.map (·.id)).Pairwise (· < ·)
  few : ms.length ≤ 1000
section
variable {w wr : World} {g gv : Nat} {q : Lies} {x : Acc} {qv : VLies} {v : ViewP} {ms : List MailP}
theorem MsOk.zok (h : MsOk ms) : ∀ z ∈ zsOf ms, ZOk z := fun z hz => by
  obtain ⟨m, hm, rfl⟩ := List.mem_map.1 hz
  obtain ⟨h1, h2⟩ := h.num m hm
  obtain ⟨h3, h4⟩ := h.keys m hm
  exact ⟨Int.le_trans h1 (by decide), Int.le_trans h2 (by decide), h3, h4⟩
theorem MsOk.rise (h : MsOk ms) : ((zsOf ms).map (·.1)).Pairwise (· < ·) := by
  have e : (zsOf ms).map (·.1) = ms.map (·.id) := by simp [zsOf]
  rw [e]
  exact h.rising
theorem MsOk.len (h : MsOk ms) : (zsOf ms).length ≤ 1000 := by
  unfold zsOf
  rw [List.length_map]
  exact h.few
theorem upd_law (hO : OwnStore w wr g q x) (hf : Fit x) (hV : OwnView w wr gv qv v) (hx : x.mails = ms) (hm : MsOk ms) (hb : v.box = 1) (hl : v.l.length ≤ 1000) (hu : ∀ m ∈ v.l, m.uid ≤ 4294967296) (ht : TensV w) (all : Bool) :
    Calls Tryz.prog 16 #[.pointer (some ⟨gv, 0, none⟩), .pointer (some ⟨g, 0, none⟩), .bool all] wr fun e w' => e = .returned (.string ⟨(updateV flagsF (zsOf ms) v all).1.toArray⟩) ∧ ∃ qv', OwnStore w w' g q x ∧ OwnView w w' gv qv' (updateV flagsF (zsOf ms) v all).2 := by
  have hlen := hm.len
  have hin : UpIn wr w.heap.size g q x gv qv v (zsOf ms) := ⟨hO.at_, hf.smallV, hV.at_, by omega, by rw [hx, hb, thereL_one hm.one]; exact List.Perm.refl _, hm.rise, by omega, hm.zok, fun m hm2 => Int.le_trans (hu m hm2) (by decide), hO.below.size, hV.own, fun W hW => ht.later (hO.below.trans hW)⟩
  refine (update_any wr w.heap.size g q x gv qv v (zsOf ms) all hin).mono ?_
  rintro e w' ⟨rfl, qv', hq⟩
  exact ⟨rfl, qv', hO.viewed hV hq, hV.turned hO.below.size hq⟩
theorem new_law (hO : OwnStore w wr g q x) (hf : Fit x) (hx : x.mails = ms) (hm : MsOk ms) (hbx : hasBox x.boxes 1 = true) :
    Calls Tryz.prog 12 #[.pointer (some ⟨g, 0, none⟩), .int .i64 1] wr fun e w' => ∃ gv qv, e = .returned (.tuple #[.pointer (some ⟨gv, 0, none⟩), .int .i64 0]) ∧ OwnStore w w' g q x ∧ OwnView w w' gv qv (newV 1 (zsOf ms)) := by
  have hlen := hm.len
  have h1 := hf.nb
  have h2 := hf.clock
  have h3 := hf.cfg.mod
  refine (newView_any wr g q x hO.at_ hf.smallV (by omega) 1 hbx (zsOf ms) (by rw [hx, thereL_one hm.one]; exact List.Perm.refl _) hm.rise (by omega)).mono ?_
  rintro e w' ⟨gv, qv, rfl, hv, hb⟩
  exact ⟨gv, qv, rfl, hO.later hb, ⟨hv.at_, fun k hk => Nat.le_trans hO.below.size (hv.own k hk)⟩⟩
/-- What an act leaves: the account turned, views as they were. -/
def Acted (w wr : World) (g : Nat) (x' : Acc) (w' : World) : Prop := ∃ q', OwnStore w w' g q' x' ∧ ∀ gv qv v, OwnView w wr gv qv v → OwnView w w' gv qv v
theorem append_law (hO : OwnStore w wr g q x) (hf : Fit x) (t : Text) (ht : t.length ≤ 1099511627776) {x' : Acc} {i : Int} (hp : appendP headF x [1] [] 0 t = (x', i, 0)) :
    Calls Tryz.prog 20 #[.pointer (some ⟨g, 0, none⟩), .slice (some ⟨wr.heap.size, 0, none⟩) 1 1, .slice none 0 0, .int .i64 0, .string ⟨t.toArray⟩] (wr.alloc (.cells #[.int .i64 1] 3)) fun e w' => e = .returned (.tuple #[.int .i64 i, .int .i64 0]) ∧ Acted w wr g x' w' := by
  have h1 := append_said _ g q x [1] _ [] [] _ [] 0 t (one_in hO.at_ hf t ht)
  rw [hp] at h1
  refine h1.mono ?_
  rintro e w' ⟨rfl, q', hq⟩
  have hb := below_alloc1 wr (.cells #[.int .i64 1] 3)
  exact ⟨rfl, q', (hO.later hb).turned hq, fun gv qv v hV => (hV.later hb).stored (hO.later hb).at_ hq⟩
theorem destroy_law (hO : OwnStore w wr g q x) (hf : Fit x) {i : Int} {x' : Acc} (hp : destroyP x i = (x', 0)) :
    Calls Tryz.prog 21 #[.pointer (some ⟨g, 0, none⟩), .int .i64 i] wr fun e w' => e = .returned (.int .i64 0) ∧ Acted w wr g x' w' := by
  have h1 := destroy_said wr g q x i hO.at_ hf
  rw [hp] at h1
  refine h1.mono ?_
  rintro e w' ⟨rfl, q', hq⟩
  exact ⟨rfl, q', hO.turned hq, fun gv qv v hV => hV.stored hO.at_ hq⟩
end
theorem msOk_nil : MsOk [] := ⟨by simp, by simp, by simp, by simp, by simp⟩
theorem digL_one {n : Int} (h : 0 ≤ n) (h2 : n < 10) : digL n = [UInt8.ofNat (48 + n.toNat)] := by
  unfold digL
  rw [Lib.decDigits_one (by omega)]
theorem ViSt.has {x : Acc} {k c : Nat} {ms : List MailP} (h : ViSt x k c ms) : hasBox x.boxes 1 = true := by
  obtain ⟨b, hb, h1, _⟩ := h.boxes
  rw [hb]
  simp [hasBox, h1]

end Go.Proofs.YtgkfknbhkonfdaaGreatDoor

namespace Go.Proofs.YtgkfknbhkonfdaaGreatDoor
open Go.Shelf Go.RowKit Go.Lib
attribute [local go_sem ↓] Go.wp_at_zero Go.wp_at_succ

theorem msOk_one (t : Text) (i c : Nat) (h1 : i ≤ 4294967296) (h2 : c ≤ 4294967296) : MsOk [mailV t i c] := by
  refine ⟨fun m hm => ?_, fun m hm => ?_, fun m hm => ?_, by simp, by simp⟩ <;> rw [List.mem_singleton.1 hm]
  · rfl
  · exact ⟨by simp [mailV], by simp [mailV]⟩
  · exact ⟨by show (i : Int) ≤ _; omega, by show (c : Int) ≤ _; omega⟩
def awV : ViewP := ⟨1, [⟨1, 1, 2⟩], 1⟩
def awT : Text := [42, 32, 49, 32, 69, 88, 73, 83, 84, 83, 13, 10]
theorem aw_u0 : updateV flagsF (zsOf []) ⟨1, [], 0⟩ true = ([], ⟨1, [], 0⟩) := update_still flagsF (by simp) (by simp) (by simp [zsOf])
theorem aw_u1 : updateV flagsF (zsOf [mailV [97] 1 2]) ⟨1, [], 0⟩ true = (awT, awV) := by
  have h := update_gone flagsF (zs := []) (z := ((1 : Int), mailV [97] 1 2)) (v := ⟨1, [], 0⟩) (by simp) (by simp) (by decide)
  have e : zsOf [mailV [97] 1 2] = [] ++ [((1 : Int), mailV [97] 1 2)] := rfl
  rw [e, h]
  have hd : digL 1 = [49] := digL_one (by omega) (by omega)
  simp [goneT, sayT, existsT, awT, awV, addV, hd, mailV, List.filter]
  decide
theorem aw_u2 : updateV flagsF (zsOf [mailV [97] 1 2]) awV true = ([], awV) := by
  refine update_still flagsF (fun m hm => ?_) (fun _ m hm => ?_) (fun z hz => ?_)
  · rw [show awV.l = [⟨1, 1, 2⟩] from rfl, List.mem_singleton] at hm
    rw [hm]
    exact .inr ⟨(1, mailV [97] 1 2), by decide, by decide⟩
  · rw [show awV.l = [⟨1, 1, 2⟩] from rfl, List.mem_singleton] at hm
    rw [hm]
    decide
  · rw [show zsOf [mailV [97] 1 2] = [((1 : Int), mailV [97] 1 2)] from rfl, List.mem_singleton] at hz
    rw [hz]
    decide

set_option maxRecDepth 100000 in
set_option maxHeartbeats 4000000 in
theorem awakeV_any (w : World) (ht : TensV w) : Calls Tryz.prog 10 #[] w fun e w' => e = .returned (.bool true) ∧ Below w.heap.size w w' := by
  obtain ⟨x1, hp1, hs1⟩ := viSt_new.app [97] rfl headF_a (by omega) (by omega)
  have hm1 : x1.mails = [mailV [97] 1 2] := hs1.mails
  have hbg := begun_any w
  have hnw : ∀ wr g q, OwnStore w wr g q (newP wideP) → Calls Tryz.prog 12 #[.pointer (some ⟨g, 0, none⟩), .int .i64 1] wr fun e w' => ∃ gv qv, e = .returned (.tuple #[.pointer (some ⟨gv, 0, none⟩), .int .i64 0]) ∧ OwnStore w w' g q (newP wideP) ∧ OwnView w w' gv qv ⟨1, [], 0⟩ := fun wr g q hO => new_law hO viSt_new.fit rfl msOk_nil viSt_new.has
  have hu0 : ∀ wr g q gv qv, OwnStore w wr g q (newP wideP) → OwnView w wr gv qv ⟨1, [], 0⟩ → Calls Tryz.prog 16 #[.pointer (some ⟨gv, 0, none⟩), .pointer (some ⟨g, 0, none⟩), .bool true] wr fun e w' => e = .returned (.string ⟨#[]⟩) ∧ ∃ qv', OwnStore w w' g q (newP wideP) ∧ OwnView w w' gv qv' ⟨1, [], 0⟩ := fun wr g q gv qv hO hV => by
    have h := upd_law hO viSt_new.fit hV (ms := []) rfl msOk_nil rfl (by simp) (by simp) ht true
    rw [aw_u0] at h
    exact h
  have hap : ∀ wr g q, OwnStore w wr g q (newP wideP) → _ := fun wr g q hO => append_law hO viSt_new.fit [97] (by decide) hp1
  have hu1 : ∀ wr g q gv qv, OwnStore w wr g q x1 → OwnView w wr gv qv ⟨1, [], 0⟩ → Calls Tryz.prog 16 #[.pointer (some ⟨gv, 0, none⟩), .pointer (some ⟨g, 0, none⟩), .bool true] wr fun e w' => e = .returned (.string ⟨#[42, 32, 49, 32, 69, 88, 73, 83, 84, 83, 13, 10]⟩) ∧ ∃ qv', OwnStore w w' g q x1 ∧ OwnView w w' gv qv' awV := fun wr g q gv qv hO hV => by
    have h := upd_law hO hs1.fit hV (ms := [mailV [97] 1 2]) hm1 (msOk_one _ _ _ (by omega) (by omega)) rfl (by simp) (by simp) ht true
    rw [aw_u1] at h
    exact h
  have hu2 : ∀ wr g q gv qv, OwnStore w wr g q x1 → OwnView w wr gv qv awV → Calls Tryz.prog 16 #[.pointer (some ⟨gv, 0, none⟩), .pointer (some ⟨g, 0, none⟩), .bool true] wr fun e w' => e = .returned (.string ⟨#[]⟩) ∧ ∃ qv', OwnStore w w' g q x1 ∧ OwnView w w' gv qv' awV := fun wr g q gv qv hO hV => by
    have h := upd_law hO hs1.fit hV (ms := [mailV [97] 1 2]) hm1 (msOk_one _ _ _ (by omega) (by omega)) rfl (by decide) (fun m hm => by rw [show awV.l = [⟨1, 1, 2⟩] from rfl, List.mem_singleton] at hm; rw [hm]; decide) ht true
    rw [aw_u2] at h
    exact h
  have HNW := Lib.hid hnw
  have HU0 := Lib.hid hu0
  have HAP := Lib.hid hap
  have HU1 := Lib.hid hu1
  have HU2 := Lib.hid hu2
  have HBG := Lib.hid hbg
  clear hnw hu0 hap hu1 hu2 hp1 hs1 hm1 hbg ht
  go_enter Tryz.func10, Tryz.ntmps10
  go_wp2_with (first
    | (go_at_call 11; refine HBG.out.mono ?_; rintro e w1 ⟨g, q, g2, rfl, ho⟩; have HO1 := Lib.hid ho; clear ho)
    | (go_at_call 12; refine (HNW.out _ _ _ HO1.out).mono ?_; rintro e w2 ⟨gv, qv, rfl, ho, hv⟩; have HO2 := Lib.hid ho; have HV2 := Lib.hid hv; clear ho hv)
    | (go_at_call 13; refine (num_any _ _).mono ?_; rintro e wn ⟨rfl, rfl⟩)
    | (go_at_call 20; refine (HAP.out _ _ _ HO3.out).mono ?_; rintro e w4 ⟨rfl, q4, ho, hv⟩; have HO4 := Lib.hid ho; have HV4 := Lib.hid (hv _ _ _ HV3.out); clear ho hv)
    | (go_at_call 16; refine (HU2.out _ _ _ _ _ HO5.out HV5.out).mono ?_; rintro e w6 ⟨rfl, qv6, ho, hv⟩; have HO6 := Lib.hid ho; clear ho hv)
    | (go_at_call 16; refine (HU1.out _ _ _ _ _ HO4.out HV4.out).mono ?_; rintro e w5 ⟨rfl, qv5, ho, hv⟩; have HO5 := Lib.hid ho; have HV5 := Lib.hid hv; clear ho hv)
    | (go_at_call 16; refine (HU0.out _ _ _ _ _ HO2.out HV2.out).mono ?_; rintro e w3 ⟨rfl, qv3, ho, hv⟩; have HO3 := Lib.hid ho; have HV3 := Lib.hid hv; clear ho hv)
    | fail)
  go_ret
  exact ⟨rfl, HO6.out.below⟩

end Go.Proofs.YtgkfknbhkonfdaaGreatDoor
