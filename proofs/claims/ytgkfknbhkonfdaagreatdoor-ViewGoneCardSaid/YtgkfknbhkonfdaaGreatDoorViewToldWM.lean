/-
  The walk of pillarboxlaw24.ViewTold.
-/
import Derived.Test.YtgkfknbhkonfdaaGreatDoorGVE
import Derived.Test.YtgkfknbhkonfdaaGreatDoorViewToldPM
import Derived.Test.YtgkfknbhkonfdaaGreatDoorGK
namespace Go.Proofs.YtgkfknbhkonfdaaGreatDoor
open Go.Shelf Go.RowKit Go.Lib
attribute [local go_sem ↓] Go.wp_at_zero Go.wp_at_succ

theorem two_texts {W : World} {X : Nat} {t0 t1 : Text} (h : Blk W X 9 #[.string ⟨t0.toArray⟩, .string ⟨t1.toArray⟩]) : RdS W [] 1 (.slice (some ⟨X, 0, none⟩) 2 2) 2 ([t0, t1].map encStr) :=
  ⟨rfl, .inr ⟨⟨X, 0, none⟩, 2, rfl, Nat.le_refl _, by unfold maxLen; omega, fun _ => ⟨rfl, h.lt, by simp, fun j hj => by
    show W.cell? ⟨X, 0 + j, none⟩ = _
    rw [Nat.zero_add, h.cell j]
    match j, hj with
    | 0, _ => rfl
    | 1, _ => rfl⟩⟩⟩
theorem msOk_3T : MsOk ms3T := by
  refine ⟨fun m hm => ?_, fun m hm => ?_, fun m hm => ?_, by decide, by decide⟩ <;> (rw [show ms3T = [mailV xT 1 2, m2T] from rfl] at hm; simp only [List.mem_cons, List.not_mem_nil, or_false] at hm; rcases hm with rfl | rfl)
  · rfl
  · rfl
  · exact ⟨by decide, by decide⟩
  · exact ⟨by decide, by decide⟩
  · exact ⟨by decide, by decide⟩
  · exact ⟨by decide, by decide⟩
theorem msOk_msK {k : Nat} (hk : k ≤ 1000) : MsOk (msK k) := by
  refine ⟨fun m hm => ?_, fun m hm => ?_, fun m hm => ?_, ?_, by rw [msK_len]; exact hk⟩
  · obtain ⟨j, hj, rfl⟩ := msK_mem hm
    rfl
  · obtain ⟨j, hj, rfl⟩ := msK_mem hm
    exact ⟨by simp [mailV], by simp [mailV]⟩
  · obtain ⟨j, hj, rfl⟩ := msK_mem hm
    exact ⟨by show ((j + 1 : Nat) : Int) ≤ _; omega, by show ((j + 2 : Nat) : Int) ≤ _; omega⟩
  · unfold msK
    rw [List.map_map]
    refine List.pairwise_map.2 ((List.pairwise_lt_range (n := k)).imp fun {a b} hab => ?_)
    show ((a + 1 : Nat) : Int) < ((b + 1 : Nat) : Int)
    omega

set_option maxRecDepth 100000 in
set_option maxHeartbeats 4000000 in
theorem viewTold_any (told all : Bool) (w : World) (ht : TensV w) : Calls Tryz.prog 5 #[.bool told, .bool all] w fun e w' => e = .returned (.bool true) ∧ Below w.heap.size w w' := by
  obtain ⟨x1, hp1, hs1⟩ := viSt_new.app xT rfl headF_x (by omega) (by omega)
  obtain ⟨x2, hp2, hs2⟩ := hs1.app xT rfl headF_x (by omega) (by omega)
  have hs2' : ViSt x2 2 2 (msK 2) := hs2
  obtain ⟨x3, hp3, hf3, hm3, hc3⟩ := keys_told hs2'
  have hA1 : ∀ wr g q, OwnStore w wr g q (newP wideP) → _ := fun wr g q hO => append_law hO viSt_new.fit xT (by decide) hp1
  have hA2 : ∀ wr g q, OwnStore w wr g q x1 → _ := fun wr g q hO => append_law hO hs1.fit xT (by decide) hp2
  have hnw : ∀ wr g q, OwnStore w wr g q x2 → Calls Tryz.prog 12 #[.pointer (some ⟨g, 0, none⟩), .int .i64 1] wr fun e w' => ∃ gv qv, e = .returned (.tuple #[.pointer (some ⟨gv, 0, none⟩), .int .i64 0]) ∧ OwnStore w w' g q x2 ∧ OwnView w w' gv qv vA := fun wr g q hO => by
    have h := new_law hO hs2'.fit hs2'.mails (msOk_msK (by omega)) hs2'.has
    rw [newA_is] at h
    exact h
  have hks : ∀ wr g q gv qv, OwnStore w wr g q x2 → OwnView w wr gv qv vA → Calls Tryz.prog 23 #[.pointer (some ⟨g, 0, none⟩), .int .i64 2, .slice (some ⟨wr.heap.size, 0, none⟩) 2 2] (wr.alloc (.cells #[.string ⟨#[36, 115, 101, 101, 110]⟩, .string ⟨#[122]⟩] 9)) fun e w' => e = .returned (.int .i64 0) ∧ ∃ q', OwnStore w w' g q' x3 ∧ OwnView w w' gv qv vA := fun wr g q gv qv hO hV => by
    have hb := below_alloc1 wr (.cells #[.string ⟨#[36, 115, 101, 101, 110]⟩, .string ⟨#[122]⟩] 9)
    have hB := Blk.new wr 9 #[.string ⟨#[36, 115, 101, 101, 110]⟩, .string ⟨#[122]⟩]
    have h := keys_said _ g q x2 2 ksT _ [] ⟨(hO.later hb).at_, hs2'.fit, two_texts (t0 := seenT) (t1 := [122]) hB, by decide, by unfold Short; decide⟩
    rw [hp3] at h
    refine h.mono ?_
    rintro e w' ⟨rfl, q', hq⟩
    exact ⟨rfl, q', (hO.later hb).turned hq, (hV.later hb).stored (hO.later hb).at_ hq⟩
  have hto : ∀ wr g q gv qv, OwnStore w wr g q x3 → OwnView w wr gv qv vA → Calls Tryz.prog 24 #[.pointer (some ⟨gv, 0, none⟩), .pointer (some ⟨g, 0, none⟩), .int .i64 2] wr fun e w' => e = .returned (.tuple #[]) ∧ ∃ qv', OwnStore w w' g q x3 ∧ OwnView w w' gv qv' vB := fun wr g q gv qv hO hV => by
    have h := told_any wr g q x3 gv qv vA (zsOf ms3T) hO.at_ hf3.smallV hV.at_ (by decide) (by rw [hm3]; exact (thereL_one msOk_3T.one) ▸ List.Perm.refl _) msOk_3T.rise (by decide) 1 (by decide)
    rw [told_two] at h
    refine h.mono ?_
    rintro e w' ⟨rfl, qv', hq⟩
    exact ⟨rfl, qv', hO.viewed hV hq, hV.turned hO.below.size hq⟩
  have hu1 : ∀ wr g q gv qv, OwnStore w wr g q x3 → OwnView w wr gv qv vA → Calls Tryz.prog 16 #[.pointer (some ⟨gv, 0, none⟩), .pointer (some ⟨g, 0, none⟩), .bool all] wr fun e w' => e = .returned (.string ⟨#[42, 32, 50, 32, 70, 69, 84, 67, 72, 32, 40, 85, 73, 68, 32, 50, 32, 70, 76, 65, 71, 83, 32, 40, 92, 83, 101, 101, 110, 32, 122, 41, 32, 77, 79, 68, 83, 69, 81, 32, 40, 52, 41, 41, 13, 10]⟩) ∧ ∃ qv', OwnStore w w' g q x3 ∧ OwnView w w' gv qv' vB := fun wr g q gv qv hO hV => by
    have h := upd_law hO hf3 hV hm3 msOk_3T rfl (by decide) (by decide) ht all
    rw [told_upd] at h
    exact h
  have hu2 : ∀ wr g q gv qv, OwnStore w wr g q x3 → OwnView w wr gv qv vB → Calls Tryz.prog 16 #[.pointer (some ⟨gv, 0, none⟩), .pointer (some ⟨g, 0, none⟩), .bool all] wr fun e w' => e = .returned (.string ⟨#[]⟩) ∧ ∃ qv', OwnStore w w' g q x3 ∧ OwnView w w' gv qv' vB := fun wr g q gv qv hO hV => by
    have h := upd_law hO hf3 hV hm3 msOk_3T rfl (by decide) (by decide) ht all
    rw [told_still] at h
    exact h
  have hcl : ∀ W g q, OwnStore w W g q x3 → _ := fun W g q hO => clock_any g 4 W (by rw [← hc3]; exact hO.at_.cell9)
  have hdg : ∀ W, Calls Tryz.prog 22 #[.int .i64 4] W fun e w' => e = .returned (.string ⟨([52] : List UInt8).toArray⟩) ∧ Below W.heap.size W w' := fun W => by
    have h := refDigits_any 4 (by omega) W
    rw [show digL 4 = [52] from digL_one' (by omega) (by omega)] at h
    exact h
  have haw : ∀ W, Below w.heap.size w W → _ := fun W hb => awakeV_any W (ht.later hb)
  have hap : ∀ a b : List UInt8, ByteArray.mk a.toArray ++ ByteArray.mk b.toArray = ByteArray.mk (a ++ b).toArray := fun a b => ByteArray.mk_append_mk a b
  have HA1 := Lib.hid hA1
  have HA2 := Lib.hid hA2
  have HNW := Lib.hid hnw
  have HKS := Lib.hid hks
  have HTO := Lib.hid hto
  have HU1 := Lib.hid hu1
  have HU2 := Lib.hid hu2
  have HCL := Lib.hid hcl
  have HDG := Lib.hid hdg
  have HAW := Lib.hid haw
  clear hA1 hA2 hnw hks hto hu1 hu2 hcl hdg haw hp1 hp2 hp3 hs1 hs2 hs2' hf3 hm3 hc3 ht
  cases told with
  | false =>
    go_enter Tryz.func5, Tryz.ntmps5
    go_wp2_with (first
      | (go_at_call 11; refine (begun_any _).mono ?_; rintro e w1 ⟨g, q, g2, rfl, ho⟩; have HO1 := Lib.hid ho; clear ho)
      | (go_at_call 20; refine (HA2.out _ _ _ HO2.out).mono ?_; rintro e w3 ⟨rfl, q3, ho, _⟩; have HO3 := Lib.hid ho; clear ho)
      | (go_at_call 20; refine (HA1.out _ _ _ HO1.out).mono ?_; rintro e w2 ⟨rfl, q2, ho, _⟩; have HO2 := Lib.hid ho; clear ho)
      | (go_at_call 12; refine (HNW.out _ _ _ HO3.out).mono ?_; rintro e w4 ⟨gv, qv, rfl, ho, hv⟩; have HO4 := Lib.hid ho; have HV4 := Lib.hid hv; clear ho hv)
      | (go_at_call 13; refine (num_any _ _).mono ?_; rintro e wn ⟨rfl, rfl⟩)
      | (go_at_call 23; refine (HKS.out _ _ _ _ _ HO4.out HV4.out).mono ?_; rintro e w5 ⟨rfl, q5, ho, hv⟩; have HO5 := Lib.hid ho; have HV5 := Lib.hid hv; clear ho hv)
      | (go_at_call 24; refine (HTO.out _ _ _ _ _ HO5.out HV5.out).mono ?_; rintro e w6 ⟨rfl, qv6, ho, hv⟩; have HO6 := Lib.hid ho; have HV6 := Lib.hid hv; clear ho hv)
      | (go_at_call 25; refine (HCL.out _ _ _ HO7.out).mono ?_; rintro e wn ⟨rfl, rfl⟩)
      | (go_at_call 22; refine (HDG.out _).mono ?_; rintro e w8 ⟨rfl, hb⟩; have HO8 := Lib.hid (HO7.out.later hb); have HV8 := Lib.hid (HV7.out.later hb); clear hb)
      | (go_at_call 16; refine (HU2.out _ _ _ _ _ HO8.out HV8.out).mono ?_; rintro e w9 ⟨rfl, qv9, ho, hv⟩; have HO9 := Lib.hid ho; clear ho hv)
      | (go_at_call 16; refine (HU1.out _ _ _ _ _ HO5.out HV5.out).mono ?_; rintro e w7 ⟨rfl, qv7, ho, hv⟩; have HO7 := Lib.hid ho; have HV7 := Lib.hid hv; clear ho hv)
      | (go_at_call 10; refine (HAW.out _ HO9.out.below).mono ?_; rintro e w10 ⟨rfl, hb⟩; have HB10 := Lib.hid (below_then HO9.out.below hb); clear hb)
      | fail)
    go_ret
    exact ⟨rfl, HB10.out⟩
  | true =>
    go_enter Tryz.func5, Tryz.ntmps5
    go_wp2_with (first
      | (go_at_call 11; refine (begun_any _).mono ?_; rintro e w1 ⟨g, q, g2, rfl, ho⟩; have HO1 := Lib.hid ho; clear ho)
      | (go_at_call 20; refine (HA2.out _ _ _ HO2.out).mono ?_; rintro e w3 ⟨rfl, q3, ho, _⟩; have HO3 := Lib.hid ho; clear ho)
      | (go_at_call 20; refine (HA1.out _ _ _ HO1.out).mono ?_; rintro e w2 ⟨rfl, q2, ho, _⟩; have HO2 := Lib.hid ho; clear ho)
      | (go_at_call 12; refine (HNW.out _ _ _ HO3.out).mono ?_; rintro e w4 ⟨gv, qv, rfl, ho, hv⟩; have HO4 := Lib.hid ho; have HV4 := Lib.hid hv; clear ho hv)
      | (go_at_call 13; refine (num_any _ _).mono ?_; rintro e wn ⟨rfl, rfl⟩)
      | (go_at_call 23; refine (HKS.out _ _ _ _ _ HO4.out HV4.out).mono ?_; rintro e w5 ⟨rfl, q5, ho, hv⟩; have HO5 := Lib.hid ho; have HV5 := Lib.hid hv; clear ho hv)
      | (go_at_call 24; refine (HTO.out _ _ _ _ _ HO5.out HV5.out).mono ?_; rintro e w6 ⟨rfl, qv6, ho, hv⟩; have HO6 := Lib.hid ho; have HV6 := Lib.hid hv; clear ho hv)
      | (go_at_call 25; refine (HCL.out _ _ _ HO7.out).mono ?_; rintro e wn ⟨rfl, rfl⟩)
      | (go_at_call 22; refine (HDG.out _).mono ?_; rintro e w8 ⟨rfl, hb⟩; have HO8 := Lib.hid (HO7.out.later hb); have HV8 := Lib.hid (HV7.out.later hb); clear hb)
      | (go_at_call 16; refine (HU2.out _ _ _ _ _ HO8.out HV8.out).mono ?_; rintro e w9 ⟨rfl, qv9, ho, hv⟩; have HO9 := Lib.hid ho; clear ho hv)
      | (go_at_call 16; refine (HU2.out _ _ _ _ _ HO6.out HV6.out).mono ?_; rintro e w7 ⟨rfl, qv7, ho, hv⟩; have HO7 := Lib.hid ho; have HV7 := Lib.hid hv; clear ho hv)
      | (go_at_call 10; refine (HAW.out _ HO9.out.below).mono ?_; rintro e w10 ⟨rfl, hb⟩; have HB10 := Lib.hid (below_then HO9.out.below hb); clear hb)
      | fail)
    go_ret
    exact ⟨rfl, HB10.out⟩

end Go.Proofs.YtgkfknbhkonfdaaGreatDoor
