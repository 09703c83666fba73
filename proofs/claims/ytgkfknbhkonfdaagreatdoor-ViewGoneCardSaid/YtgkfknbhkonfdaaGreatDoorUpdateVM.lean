/-
  The walk of the view's Update.
-/
import Derived.Test.YtgkfknbhkonfdaaGreatDoorGVD
import Derived.Test.YtgkfknbhkonfdaaGreatDoorGVB
import Derived.Deep.RegionHeld3
namespace Go.Proofs.YtgkfknbhkonfdaaGreatDoor
open Go.Shelf Go.RowKit Go.Lib
attribute [local go_sem ↓] Go.wp_at_zero Go.wp_at_succ

theorem qsameV {P : Program} {f : FuncId} {args : Array Value} {w : World} {n : Nat} {v : Value}
    (h : Calls P f args (w.drewN n) fun e w' => e = .returned v ∧ w.drewN n = w') : Calls P f args (w.drewN n) fun e w'' => e = .returned v ∧ ∃ m, w'' = w.drewN m :=
  Calls.quiet_of_same (h.mono fun _ _ ⟨a, b⟩ => ⟨a, b.symm⟩)
structure UpIn (w : World) (B0 g : Nat) (q : Lies) (x : Acc) (gv : Nat) (qv : VLies) (v : ViewP) (zs : List (Int × MailP)) : Prop where
  at_ : StoreAt w g q x
  small : SmallM x
  view : ViewAt w gv qv v
  vlen : v.l.length ≤ 16777216
  perm : zs.Perm (thereL x.mails v.box)
  rise : (zs.map (·.1)).Pairwise (· < ·)
  zlen : zs.length ≤ 4294967296
  zok : ∀ z ∈ zs, ZOk z
  muid : ∀ m ∈ v.l, m.uid ≤ 9223372036854775807
  base : B0 ≤ w.heap.size
  own : ∀ k ∈ qv.own gv, B0 ≤ k
  tens : ∀ W, Below B0 w W → TensV W
def UpOut (w : World) (gv : Nat) (qv : VLies) (r : Text × ViewP) (e : Ending) (w' : World) : Prop := e = .returned (.string ⟨r.1.toArray⟩) ∧ ∃ q', VTurned w w' gv qv r.2 q'

set_option maxRecDepth 100000 in
set_option maxHeartbeats 8000000 in
theorem update_any (w : World) (B0 g : Nat) (q : Lies) (x : Acc) (gv : Nat) (qv : VLies) (v : ViewP) (zs : List (Int × MailP)) (all : Bool) (h : UpIn w B0 g q x gv qv v zs) :
    Calls Tryz.prog 16 #[.pointer (some ⟨gv, 0, none⟩), .pointer (some ⟨g, 0, none⟩), .bool all] w (UpOut w gv qv (updateV flagsF zs v all)) := by
  obtain ⟨s, hs⟩ : ∃ s, w.heap.size = s := ⟨_, rfl⟩
  have hwi := fun W (hb : Below w.heap.size w W) => withinV_any W g q x (h.at_.later hb) h.small v.box zs h.perm h.rise (by have := h.zlen; omega)
  have hB7 := bld_new w
  have hc0 : ∀ W, Below w.heap.size w W → W.cell? ⟨gv, 0, none⟩ = some (.int .i64 v.box) := fun W hb => (h.view.later hb).blk.cell 0
  have HWI := Lib.hid hwi
  have HB7 := Lib.hid hB7
  have HC0 := Lib.hid hc0
  have H := Lib.hid h
  have HBA := Lib.hid (below_alloc1 w (.cells #[.pointer none, .slice none 0 0] 102))
  have y0 := HC0.out _ HBA.out
  have HSZ := Lib.hid hs
  clear hwi hB7 hc0 h
  go_enter Tryz.func16, Tryz.ntmps16
  go_upto_block 0 with (first
    | (go_at_call 41; refine (HWI.out _ HBA.out).mono ?_; rintro e w2 ⟨nv, l, rfl, k1, k2, k3⟩; obtain ⟨A9, c9, rfl, _, _⟩ := k2.rd.form; have K1 := Lib.hid k1; have K2 := Lib.hid k2; have K3 := Lib.hid k3; clear k1 k2 k3)
    | fail)
  obtain ⟨b9, hb9⟩ : ∃ b9, w2.heap.size = b9 := ⟨_, rfl⟩
  obtain ⟨wo, hwo⟩ : ∃ wo : World, wo = w2.alloc (.cells #[.slice A9 l.length c9] 86) := ⟨_, rfl⟩
  have hU0 : UpR w wo gv qv qv v [] s b9 (.slice A9 l.length c9) l := by
    have hb2 := below_then HBA.out K3.out
    rw [hwo]
    have h7 := HB7.out
    rw [HSZ.out] at h7
    refine ⟨(VTurned.refl H.out.view).then (below_then hb2 (below_alloc1 _ _)), ?_, ?_, K2.out.later (below_alloc1 _ _)⟩
    · rw [HSZ.out]
      exact (h7.later K3.out).later (below_alloc1 _ _)
    · rw [← hb9]
      exact Blk.new _ _ _
  have HU0 := Lib.hid hU0
  try rw [hb9]
  try rw [← hwo]
  clear hU0 hwo hb9 y0 hs
  obtain ⟨l1, hl1⟩ : ∃ l1, l1 = (if all then v.l.filter (isV zs) else v.l) := ⟨_, rfl⟩
  obtain ⟨t1, ht1⟩ : ∃ t1, t1 = (if all then goneT (isV zs) 0 v.l else []) := ⟨_, rfl⟩
  have HL1 := Lib.hid hl1
  have HT1 := Lib.hid ht1
  obtain ⟨nl, hnl⟩ : ∃ nl, l.length = nl := ⟨_, rfl⟩
  have HNL := Lib.hid hnl
  rw [hnl] at HU0
  try rw [hnl]
  clear hl1 ht1 hnl
  go_cut [] (fun wx => ∃ q1, Hid (UpR w wx gv qv q1 ⟨v.box, l1, v.had⟩ t1 s b9 (.slice A9 nl c9) l))
  case first =>
    cases all with
    | false =>
      go_wp2_with fail
      go_loopw [11] (fun i wr => i = .int .i64 0 ∧ Hid (UpR w wr gv qv qv v [] s b9 (.slice A9 nl c9) l)) (fun _ _ => 0)
      case atStart => exact ⟨rfl, HU0⟩
      case round =>
        obtain ⟨rfl, HU⟩ := hrel
        have HF : Hid (UpR w wr gv qv qv ⟨v.box, l1, v.had⟩ t1 s b9 (.slice A9 nl c9) l) := Lib.hid (by
          have e1 := HL1.out
          have e2 := HT1.out
          simp only [Bool.false_eq_true, if_false] at e1 e2
          rw [e1, e2]
          exact HU.out)
        go_wp2_with fail
        go_meet
        exact ⟨_, HF⟩
    | true =>
      go_wp2_with fail
      go_loopw [11] (fun i wr => ∃ (i0 : Nat) (cur : List Msg) (t : Text) (q1 : VLies), i = .int .i64 i0 ∧ Hid (GoneI (isV zs) v.l cur i0 t) ∧ Hid (UpR w wr gv qv q1 ⟨v.box, cur, v.had⟩ t s b9 (.slice A9 nl c9) l)) (fun i wr => lenV wr gv - (intOf i).toNat)
      case atStart => exact ⟨0, v.l, [], qv, rfl, Lib.hid (GoneI.start _ _), HU0⟩
      case round =>
        clear HU0
        obtain ⟨i0, cur, t, q1, rfl, HG, HU⟩ := hrel
        obtain ⟨Am, cm, hvl, _, _⟩ := HU.out.turned.at_.msgs.form
        obtain ⟨nc, hnc⟩ : ∃ nc, cur.length = nc := ⟨_, rfl⟩
        have c1 : wr.cell? ⟨gv, 1, none⟩ = some (.slice Am nc cm) := by
          have h1 := HU.out.turned.at_.blk.cell 1
          rw [h1, ← hnc]
          exact congrArg some hvl
        have hi0 : (0 : Int) ≤ (i0 : Int) := by omega
        have hsm : nc ≤ 4294967296 := by
          have h1 := HG.out.small
          have h2 := H.out.vlen
          omega
        have hle : i0 ≤ nc := by rw [← hnc]; exact HG.out.le
        have HNC := Lib.hid hnc
        by_cases hlt : i0 < nc
        · have hltz : (i0 : Int) < (nc : Int) := by omega
          have hiw : IntKind.i64.wrap ((i0 : Int) + 1) = (i0 : Int) + 1 := IntWalk.i64_in _ (by omega)
          have hvl2 : q1.vl = .slice Am nc cm := by rw [← hnc]; exact hvl
          obtain ⟨bm, om, mm, hi1, hi2, hAm, hbm, hmm, hcm, d0, d1, d2⟩ := HU.out.turned.at_.msg (v := ⟨v.box, cur, v.had⟩) hnc hvl2 i0 hlt
          subst hAm
          have hnlb : nl ≤ 4294967296 := by
            have h1 := H.out.zlen
            rw [← K1.out, List.length_map, HNL.out] at h1
            exact h1
          have hfind := fun W (hb : Below wr.heap.size wr W) => find_any W mm.p mm.t b9 (.slice A9 nl c9) l ((HU.out.later hb).box.cell 0) (HU.out.later hb).box.lt (HU.out.later hb).there (by rw [HNL.out]; omega)
          have his : isV zs (cur[i0]'hi2) = (l.find? fun z => isZ mm.p z.z).isSome := by
            have h1 : (cur[i0]'hi2) = mm.p := hcm
            unfold isV
            rw [h1, ← K1.out, findV_l]
            cases l.find? (fun z => isZ mm.p z.z) <;> rfl
          have hMM : Hid (q1.ms[i0]'hi1 = mm) := Lib.hid hmm
          have HLV : Hid (lenV wr gv = cur.length) := Lib.hid HU.out.turned.at_.lenV
          unfold FoundOut at hfind
          obtain ⟨fo, hfo⟩ : ∃ fo, l.find? (fun z => isZ mm.p z.z) = fo := ⟨_, rfl⟩
          rw [hfo] at his
          simp only [hfo] at hfind
          obtain ⟨⟨mu, mi, mt⟩, tt⟩ := mm
          cases fo with
          | some z =>
            obtain ⟨zu, ⟨zi, zth, ztx, zat, zk, zme, zmo, zbo⟩, za, zc, zb, zd⟩ := z
            simp only [encTh, encM, ThM.m, strV] at hfind
            obtain ⟨nk, hnk⟩ : ∃ nk, zk.length = nk := ⟨_, rfl⟩
            obtain ⟨nm, hnm⟩ : ∃ nm, zme.length = nm := ⟨_, rfl⟩
            rw [hnk, hnm] at hfind
            have HG2 := Lib.hid (HG.out.keep hi2 his)
            have HFI := Lib.hid (hfind wr (Below.refl _ _))
            clear hfind his hfo hcm hmm hvl hvl2 hnc hnk hnm hMM
            go_wp2_with (first
              | (go_at_call 49; refine HFI.out.mono ?_; rintro e w5 ⟨rfl, hb5⟩; have HU5 := Lib.hid ((HU.out.later hb5).later (below_alloc1 w5 (.cells #[.int .i64 zu, .int .i64 zi, .int .i64 zth, .string ⟨ztx.toArray⟩, .int .i64 zat, .slice za nk zc, .slice zb nm zd, .int .i64 zmo, .int .i64 zbo] 92))); clear hb5)
              | fail)
            refine ⟨?_, ?_⟩
            · first | exact ⟨i0 + 1, cur, t, q1, by go_num, HG2, HU5⟩ | ((repeat apply Exists.intro); exact ⟨⟨i0 + 1, cur, t, q1, by go_num, HG2, HU5⟩, rfl⟩)
            · have e1 := HU5.out.turned.at_.lenV
              have e2 := HLV.out
              have e3 := HNC.out
              rw [e2, e1]
              simp [intOf]
              omega
          | none =>
            simp only [zeroTh] at hfind
            have HG2 := Lib.hid (HG.out.drop hi2 his)
            have HFI := Lib.hid (hfind wr (Below.refl _ _))
            have htl : t.length ≤ 1099511627776 := by
              have h1 := congrArg List.length HG.out.text
              rw [List.length_append] at h1
              have h2 := goneT_len (isV zs) v.l 0 (by have := H.out.vlen; omega)
              have h3 := H.out.vlen
              omega
            have HSAY : Hid (∀ W X, Below wr.heap.size wr W → Blk W X 9 #[.string ⟨expungeT.toArray⟩] → Calls Tryz.prog 45 #[.int .i64 ((i0 : Int) + 1), .slice (some ⟨X, 0, none⟩) 1 1, .pointer (some ⟨s, 0, none⟩)] W fun e w' => e = .returned (.tuple #[]) ∧ UpR w w' gv qv q1 ⟨v.box, cur, v.had⟩ (t ++ sayT ((i0 : Int) + 1) expungeT) s b9 (.slice A9 nl c9) l) := Lib.hid (fun W X hb hX => by
              have hu := HU.out.later hb
              have h1 := say_any W ((i0 : Int) + 1) (by omega) _ 1 [expungeT] rfl (by omega) (by omega) (one_text hX) w.heap.size s t hu.bld hu.turned.chg.size htl (by rw [Lib.join_one]; decide) (H.out.tens W (hu.below H.out.base H.out.own))
              rw [Lib.join_one] at h1
              refine h1.mono ?_
              rintro e w' ⟨rfl, k1, k2, k3⟩
              exact ⟨rfl, hu.said k1 k2 k3⟩)
            have HC8 : Hid (∀ W (tx : Text), UpR w W gv qv q1 ⟨v.box, cur, v.had⟩ tx s b9 (.slice A9 nl c9) l → W.cell? ⟨gv, 1, none⟩ = some (.slice (some ⟨bm, om, none⟩) nc cm)) := Lib.hid (fun W tx hu => by
              rw [hu.turned.at_.blk.cell 1, ← hvl2]
              rfl)
            have HDEL : Hid (∀ W, UpR w W gv qv q1 ⟨v.box, cur, v.had⟩ (t ++ sayT ((i0 : Int) + 1) expungeT) s b9 (.slice A9 nl c9) l → Calls Tryz.prog 52 #[.slice (some ⟨bm, om, none⟩) nc cm, .int .i64 i0, .int .i64 ((i0 : Int) + 1)] W fun e w9 => ∃ A10 c10, e = .returned (.slice A10 (nc - 1) c10) ∧ w9.cell? ⟨gv, 1, none⟩ = some (.slice (some ⟨bm, om, none⟩) nc cm) ∧ w9.frozen? ⟨gv, 1, none⟩ = false ∧ ∃ q2, Hid (UpR w (w9.setCell ⟨gv, 1, none⟩ (.slice A10 (nc - 1) c10)) gv qv q2 ⟨v.box, cur.eraseIdx i0, v.had⟩ (t ++ sayT ((i0 : Int) + 1) expungeT) s b9 (.slice A9 nl c9) l)) := Lib.hid (fun W hu => by
              have hv := hu.turned.at_
              have hsl := hv.msgs
              rw [show (⟨v.box, cur, v.had⟩ : ViewP).l.length = nc from hnc, hvl2] at hsl
              refine (delV_any W _ q1.hl nc _ hsl (flatG_one encMsg_one _) (by omega) i0 hlt).mono ?_
              rintro e w9 ⟨v9, rfl, k1, k2⟩
              obtain ⟨A10, c10, rfl, _, _⟩ := k1.form
              have hgn : gv ∉ q1.hl.toList := fun hm => hv.g_hl (by simpa using hm)
              have hb9 := hv.blk.chg k2 hgn
              have hlen : (q1.ms.eraseIdx i0).length = nc - 1 := by
                rw [List.length_eraseIdx_of_lt hi1, hv.len]
                exact congrArg (· - 1) hnc
              have hset := ViewAt.setList hv (q1.ms.eraseIdx i0) (fun m hm => List.mem_of_mem_eraseIdx hm) ((List.Sublist.map _ (List.eraseIdx_sublist ..)).nodup hv.nodup) (v2 := .slice A10 (nc - 1) c10) (w' := w9) (by rw [hlen, flatM_erase]; exact k1) k2
              have hmap : (q1.ms.eraseIdx i0).map (·.p) = cur.eraseIdx i0 := by
                rw [map_erase, hv.same]
              rw [hmap] at hset
              refine ⟨A10, c10, rfl, ?_, hb9.frozen 1, _, Lib.hid (hu.turn hset)⟩
              rw [hb9.cell 1, ← hvl2]
              rfl)
            clear hfind his hfo hcm hmm hvl hvl2 hnc htl hMM
            go_wp2_with (first
              | (go_at_call 49; refine HFI.out.mono ?_; rintro e w5 ⟨rfl, hb5⟩; have HB5 := Lib.hid (below_then (below_then hb5 (below_alloc1 w5 (.cells #[.int .i64 0, .int .i64 0, .int .i64 0, .string ⟨#[]⟩, .int .i64 0, .slice none 0 0, .slice none 0 0, .int .i64 0, .int .i64 0] 92))) (below_alloc1 _ (.cells #[.string ⟨#[69, 88, 80, 85, 78, 71, 69]⟩] 9))); have HX5 : Hid (Blk ((w5.alloc (.cells #[.int .i64 0, .int .i64 0, .int .i64 0, .string ⟨#[]⟩, .int .i64 0, .slice none 0 0, .slice none 0 0, .int .i64 0, .int .i64 0] 92)).alloc (.cells #[.string ⟨#[69, 88, 80, 85, 78, 71, 69]⟩] 9)) (w5.heap.size + 1) 9 #[.string ⟨expungeT.toArray⟩]) := Lib.hid (by have h1 := Blk.new (w5.alloc (.cells #[.int .i64 0, .int .i64 0, .int .i64 0, .string ⟨#[]⟩, .int .i64 0, .slice none 0 0, .slice none 0 0, .int .i64 0, .int .i64 0] 92)) 9 #[.string ⟨expungeT.toArray⟩]; rw [World.size_alloc] at h1; exact h1); clear hb5)
              | (go_at_call 45; refine (HSAY.out _ _ HB5.out HX5.out).mono ?_; rintro e w8 ⟨rfl, hu8⟩; have c8 := HC8.out _ _ hu8; have HU8 := Lib.hid hu8; clear hu8)
              | (go_at_call 52; refine (HDEL.out _ HU8.out).mono ?_; rintro e w9 ⟨A10, c10, rfl, y9, z9, q2, HU9⟩)
              | fail)
            refine ⟨?_, ?_⟩
            · first | exact ⟨i0, cur.eraseIdx i0, _, q2, rfl, HG2, HU9⟩ | ((repeat apply Exists.intro); exact ⟨⟨i0, cur.eraseIdx i0, _, q2, rfl, HG2, HU9⟩, rfl⟩)
            · have e1 := HU9.out.turned.at_.lenV
              have e2 := HLV.out
              have e3 := HNC.out
              have e4 := List.length_eraseIdx_of_lt hi2
              rw [e2, e1]
              simp [intOf]
              omega
        · have hltz : ¬ (i0 : Int) < (nc : Int) := by omega
          have HF : Hid (UpR w wr gv qv q1 ⟨v.box, l1, v.had⟩ t1 s b9 (.slice A9 nl c9) l) := Lib.hid (by
            have e1 := HL1.out
            have e2 := HT1.out
            obtain ⟨g1, g2⟩ := HG.out.done (by rw [hnc]; exact hlt)
            simp only [if_true] at e1 e2
            rw [e1, e2, ← g1, ← g2]
            exact HU.out)
          clear hnc hvl
          go_wp2_with fail
          go_meet
          exact ⟨_, HF⟩
  case rest =>
    clear HU0
    obtain ⟨q1, HU⟩ := hcut
    obtain ⟨w1, rfl⟩ : ∃ w1 : World, w1 = wc := ⟨_, rfl⟩
    obtain ⟨Am, cm, hvl, _, _⟩ := HU.out.turned.at_.msgs.form
    obtain ⟨nc, hnc⟩ : ∃ nc, l1.length = nc := ⟨_, rfl⟩
    have hvl2 : q1.vl = .slice Am nc cm := by rw [← hnc]; exact hvl
    have c1 : w1.cell? ⟨gv, 1, none⟩ = some (.slice Am nc cm) := by
      rw [HU.out.turned.at_.blk.cell 1, ← hvl2]
      rfl
    have hsm : nc ≤ 16777216 := by
      have h2 := H.out.vlen
      have h1 := HL1.out
      rw [← hnc, h1]
      split
      · exact Nat.le_trans (List.length_filter_le _ _) h2
      · exact h2
    have hmu1 : ∀ m ∈ l1, m.uid ≤ 9223372036854775807 := fun m hm => by
      have h1 := HL1.out
      rw [h1] at hm
      split at hm
      · exact H.out.muid m (List.mem_filter.1 hm).1
      · exact H.out.muid m hm
    have ht1l : t1.length ≤ 274877906944 := by
      have h1 := HT1.out
      have h2 := H.out.vlen
      have h3 := goneT_len (isV zs) v.l 0 (by omega)
      rw [h1]
      split
      · omega
      · simp
    have hnlb : nl ≤ 4294967296 := by
      have h1 := H.out.zlen
      rw [← K1.out, List.length_map, HNL.out] at h1
      exact h1
    have HNC := Lib.hid hnc
    have HMU1 := Lib.hid hmu1
    have HT1L := Lib.hid ht1l
    have hR0 : Hid (UpR w w1 gv qv q1 ⟨v.box, (l1.take 0).map (turnM zs) ++ l1.drop 0, v.had⟩ (t1 ++ turnT flagsF zs 0 (l1.take 0)) s b9 (.slice A9 nl c9) l) := Lib.hid (by
      simp only [List.take_zero, List.map_nil, List.drop_zero, List.nil_append, turnT, List.append_nil]
      exact HU.out)
    have HV0 := Lib.hid hvl2
    clear hvl hnc hvl2 hmu1 ht1l HU
    go_upto_block 2 with (fail)
    go_cut [] (fun wx => ∃ q2, Hid (UpR w wx gv qv q2 ⟨v.box, l1.map (turnM zs), v.had⟩ (t1 ++ turnT flagsF zs 0 l1) s b9 (.slice A9 nl c9) l))
    case first =>
      go_wp2_with fail
      go_loopw [78] (fun i wr => ∃ (k : Nat) (q2 : VLies), k ≤ nc ∧ i = .int .i64 k ∧ Hid (UpR w wr gv qv q2 ⟨v.box, (l1.take k).map (turnM zs) ++ l1.drop k, v.had⟩ (t1 ++ turnT flagsF zs 0 (l1.take k)) s b9 (.slice A9 nl c9) l) ∧ Hid (q2.vl = .slice Am nc cm)) (fun i _ => nc - (intOf i).toNat)
      case atStart => exact ⟨0, q1, Nat.zero_le _, rfl, hR0, HV0⟩
      case round =>
        clear hR0 HV0 c1
        obtain ⟨k, q2, hk, rfl, HU, HV2⟩ := hrel
        by_cases hlt : k < nc
        · have hltz : (k : Int) < (nc : Int) := by omega
          have hk0 : (0 : Int) ≤ (k : Int) := by omega
          have hkw : IntKind.i64.wrap ((k : Int) + 1) = (k : Int) + 1 := IntWalk.i64_in _ (by omega)
          have hkl : k < l1.length := by rw [HNC.out]; exact hlt
          have hlen2 : ((l1.take k).map (turnM zs) ++ l1.drop k).length = nc := by rw [turned_len, HNC.out]
          obtain ⟨bm, om, mm, hi1, hi2, hAm, hbm, hmm, hcm, d0, d1, d2⟩ := HU.out.turned.at_.msg (v := ⟨v.box, (l1.take k).map (turnM zs) ++ l1.drop k, v.had⟩) hlen2 HV2.out k hlt
          subst hAm
          have hcm2 : l1[k] = mm.p := (turned_get hkl hi2).symm.trans hcm
          have hfind := fun W (hb : Below wr.heap.size wr W) => find_any W mm.p mm.t b9 (.slice A9 nl c9) l ((HU.out.later hb).box.cell 0) (HU.out.later hb).box.lt (HU.out.later hb).there (by rw [HNL.out]; omega)
          have hfz : findV zs mm.p = (l.find? fun z => isZ mm.p z.z).map ThM.z := by rw [← K1.out, findV_l]
          have htold : Blk wr mm.t 131 #[.int .i64 mm.p.told] := by
            rw [← hmm]
            exact HU.out.turned.at_.told _ (List.getElem_mem hi1)
          have hmuid := HMU1.out mm.p (by rw [← hcm2]; exact List.getElem_mem hkl)
          unfold FoundOut at hfind
          obtain ⟨fo, hfo⟩ : ∃ fo, l.find? (fun z => isZ mm.p z.z) = fo := ⟨_, rfl⟩
          rw [hfo] at hfz
          simp only [hfo] at hfind
          obtain ⟨⟨mu, mi, mt⟩, tt⟩ := mm
          have HBM := Lib.hid (below_alloc1 wr (.cells #[.int .i64 mu, .int .i64 mi, .pointer (some ⟨tt, 0, none⟩)] 96))
          have HFI := Lib.hid (hfind _ HBM.out)
          have hstill : ∀ W, Below wr.heap.size wr W → turnT flagsF zs k [l1[k]] = [] ∧ turnM zs l1[k] = l1[k] → UpR w W gv qv q2 ⟨v.box, (l1.take (k + 1)).map (turnM zs) ++ l1.drop (k + 1), v.had⟩ (t1 ++ turnT flagsF zs 0 (l1.take (k + 1))) s b9 (.slice A9 nl c9) l := fun W hb ⟨e1, e2⟩ => by
            rw [turned_still hkl e2, turned_text hkl, e1, List.append_nil]
            exact HU.out.later hb
          cases fo with
          | none =>
            simp only [zeroTh] at HFI
            have HST : Hid (∀ W, Below wr.heap.size wr W → UpR w W gv qv q2 ⟨v.box, (l1.take (k + 1)).map (turnM zs) ++ l1.drop (k + 1), v.had⟩ (t1 ++ turnT flagsF zs 0 (l1.take (k + 1))) s b9 (.slice A9 nl c9) l) := Lib.hid (fun W hb => hstill W hb (by rw [hcm2]; exact turn_none k hfz))
            clear hfind hfo hfz hcm hmm hstill htold hcm2 hlen2 hkl hi1 hi2 hmuid
            go_wp2_with (first
              | (go_at_call 49; refine HFI.out.mono ?_; rintro e w5 ⟨rfl, hb5⟩; have HB5 := Lib.hid (below_then (below_then HBM.out hb5) (below_alloc1 w5 (.cells #[.int .i64 0, .int .i64 0, .int .i64 0, .string ⟨#[]⟩, .int .i64 0, .slice none 0 0, .slice none 0 0, .int .i64 0, .int .i64 0] 92))); clear hb5)
              | fail)
            go_quiet (fail)
            go_wp2_with fail
            refine ⟨?_, by simp [intOf]; omega⟩
            first | exact ⟨k + 1, q2, by omega, by go_num, Lib.hid (HST.out _ (below_drewN' HB5.out _)), HV2⟩ | ((repeat apply Exists.intro); exact ⟨⟨k + 1, q2, by omega, by go_num, Lib.hid (HST.out _ (below_drewN' HB5.out _)), HV2⟩, rfl⟩)
          | some z =>
            have hzmem := List.mem_of_find?_eq_some hfo
            have hzok : ZOk z.z := H.out.zok z.z (by rw [← K1.out]; exact List.mem_map_of_mem hzmem)
            have hpart := fun W (hb : ThereAt W (.slice A9 nl c9) l) => (hb.parts z hzmem).keys
            obtain ⟨zu, ⟨zi, zth, ztx, zat, zk, zme, zmo, zbo⟩, za, zc, zb, zd⟩ := z
            simp only [encTh, encM, ThM.m, strV] at HFI hpart
            obtain ⟨nk, hnk⟩ : ∃ nk, zk.length = nk := ⟨_, rfl⟩
            obtain ⟨nm, hnm⟩ : ∃ nm, zme.length = nm := ⟨_, rfl⟩
            rw [hnk, hnm] at HFI
            rw [hnk] at hpart
            have hld := fun W (hb : Below wr.heap.size wr W) => atomLoad_any tt 0 mt W ((htold.below hb htold.lt).cell 0)
            have HLD := Lib.hid hld
            have HBMM := Lib.hid (Blk.new wr 96 #[.int .i64 mu, .int .i64 mi, .pointer (some ⟨tt, 0, none⟩)])
            have HTOLD := Lib.hid htold
            obtain ⟨M0, hM0⟩ : ∃ M0, wr.heap.size = M0 := ⟨_, rfl⟩
            rw [hM0] at HBMM
            by_cases hc : mt < zmo
            · have hcd : decide (mt < zmo) = true := decide_eq_true hc
              obtain ⟨en1, en2⟩ := turn_new (flags := flagsF) k hfz hc
              have hupd : ∀ W, Below wr.heap.size wr W → ∃ q3, UpR w (W.setCell ⟨tt, 0, none⟩ (.int .i64 zmo)) gv qv q3 ⟨v.box, (l1.take (k + 1)).map (turnM zs) ++ l1.drop (k + 1), v.had⟩ (t1 ++ turnT flagsF zs 0 (l1.take k)) s b9 (.slice A9 nl c9) l ∧ q3.vl = .slice (some ⟨bm, om, none⟩) nc cm := fun W hb => by
                have hu := HU.out.later hb
                have h1 := hu.turned.at_.setTold k hi1 hi2 zmo
                rw [hmm] at h1
                refine ⟨⟨q2.hl, q2.vl, q2.ms.set k ((⟨⟨mu, mi, mt⟩, tt⟩ : MsgM).set zmo)⟩, ?_, ?_⟩
                · have h2 := hu.turn h1
                  have e3 : (l1.take (k + 1)).map (turnM zs) ++ l1.drop (k + 1) = ((l1.take k).map (turnM zs) ++ l1.drop k).set k { ((l1.take k).map (turnM zs) ++ l1.drop k)[k]'hi2 with told := zmo } := by
                    rw [turned_step hkl, turned_get hkl hi2, hcm2]
                    exact congrArg _ en2
                  rw [e3]
                  exact h2
                · exact HV2.out
              have htx : ∀ tx, tx = fetchT flagsF k mu ⟨zi, zth, ztx, zat, zk, zme, zmo, zbo⟩ → (t1 ++ turnT flagsF zs 0 (l1.take k)) ++ tx = t1 ++ turnT flagsF zs 0 (l1.take (k + 1)) := fun tx e => by
                rw [turned_text hkl, hcm2, en1, e, List.append_assoc]
                rfl
              have htlen : (t1 ++ turnT flagsF zs 0 (l1.take k)).length ≤ 1099511627776 := by
                have h1 := HT1L.out
                have h2 := turnT_len (fun z hz => H.out.zok z hz) (l1.take k) 0 (fun m hm => HMU1.out m (List.mem_of_mem_take hm)) (by rw [List.length_take]; omega)
                have h3 : (l1.take k).length ≤ 16777216 := by rw [List.length_take]; omega
                rw [List.length_append]
                omega
              have HUPD := Lib.hid hupd
              clear hupd
              have HTX := Lib.hid htx
              have HTL := Lib.hid htlen
              have HZOK := Lib.hid hzok
              have HPART := Lib.hid hpart
              have HMUID := Lib.hid hmuid
              have HNK := Lib.hid hnk
              clear hfind hfo hfz hcm hmm hstill htold hcm2 hlen2 hkl hi1 hi2 hmuid hzmem hzok hpart hnk hnm hld hc htx htlen en1 en2
              go_upto_region 18 with (first
                | (go_at_call 49; refine HFI.out.mono ?_; rintro e w5 ⟨rfl, hb5⟩; have HB5 := Lib.hid hb5; clear hb5)
                | fail)
              obtain ⟨T0, hT0⟩ : ∃ T0, w5.heap.size = T0 := ⟨_, rfl⟩
              obtain ⟨w6, hw6⟩ : ∃ w6 : World, w6 = w5.alloc (.cells #[.int .i64 zu, .int .i64 zi, .int .i64 zth, .string ⟨ztx.toArray⟩, .int .i64 zat, .slice za nk zc, .slice zb nm zd, .int .i64 zmo, .int .i64 zbo] 92) := ⟨_, rfl⟩
              have HB6 : Hid (Below wr.heap.size wr w6) := Lib.hid (by rw [hw6]; exact below_then (below_then HBM.out HB5.out) (below_alloc1 _ _))
              have HBM6 : Hid (Blk w6 M0 96 #[.int .i64 mu, .int .i64 mi, .pointer (some ⟨tt, 0, none⟩)]) := Lib.hid (by rw [hw6]; exact (HBMM.out.below HB5.out HBMM.out.lt).alloc _)
              have HBT6 : Hid (Blk w6 T0 92 #[.int .i64 zu, .int .i64 zi, .int .i64 zth, .string ⟨ztx.toArray⟩, .int .i64 zat, .slice za nk zc, .slice zb nm zd, .int .i64 zmo, .int .i64 zbo]) := Lib.hid (by rw [hw6, ← hT0]; exact Blk.new _ _ _)
              rw [← hw6]
              try rw [hT0]
              try rw [hM0]
              have m2 : w6.cell? ⟨M0, 2, none⟩ = some (.pointer (some ⟨tt, 0, none⟩)) := HBM6.out.cell 2
              have y7 : w6.cell? ⟨T0, 7, none⟩ = some (.int .i64 zmo) := HBT6.out.cell 7
              have hld6 := fun n => HLD.out (w6.drewN n) (below_drewN' HB6.out n)
              clear hw6 hT0 hM0
              have HST0 : Hid (∀ n, Calls Tryz.prog 54 #[.pointer (some ⟨tt, 0, none⟩), .int .i64 zmo] (w6.drewN n) fun e wq => e = .returned (.tuple #[]) ∧ (∃ q3, UpR w wq gv qv q3 ⟨v.box, (l1.take (k + 1)).map (turnM zs) ++ l1.drop (k + 1), v.had⟩ (t1 ++ turnT flagsF zs 0 (l1.take k)) s b9 (.slice A9 nl c9) l ∧ q3.vl = .slice (some ⟨bm, om, none⟩) nc cm) ∧ Blk wq M0 96 #[.int .i64 mu, .int .i64 mi, .pointer (some ⟨tt, 0, none⟩)] ∧ Blk wq T0 92 #[.int .i64 zu, .int .i64 zi, .int .i64 zth, .string ⟨ztx.toArray⟩, .int .i64 zat, .slice za nk zc, .slice zb nm zd, .int .i64 zmo, .int .i64 zbo]) := Lib.hid (fun n => by
                have hb := below_drewN' HB6.out n
                have ht := HTOLD.out.below hb HTOLD.out.lt
                refine (atomStore_any tt 0 mt zmo (w6.drewN n) (ht.cell 0) (ht.frozen 0)).mono ?_
                rintro e wq ⟨rfl, hw⟩
                rw [hw]
                have kM : Blk (w6.drewN n) M0 96 #[.int .i64 mu, .int .i64 mi, .pointer (some ⟨tt, 0, none⟩)] := HBM6.out.heap (by rfl)
                have kT : Blk (w6.drewN n) T0 92 #[.int .i64 zu, .int .i64 zi, .int .i64 zth, .string ⟨ztx.toArray⟩, .int .i64 zat, .slice za nk zc, .slice zb nm zd, .int .i64 zmo, .int .i64 zbo] := HBT6.out.heap (by rfl)
                exact ⟨rfl, HUPD.out _ hb, kM.far (p := ⟨tt, 0, none⟩) (kM.ne ht (by decide)) _, kT.far (p := ⟨tt, 0, none⟩) (kT.ne ht (by decide)) _⟩)
              go_quiet ((go_at_call 53; exact qsameV (hld6 _)))
              clear hld6
              go_upto_region 20 with (first
                | (go_at_call 54; refine (HST0.out _).mono ?_; rintro e wq ⟨rfl, ⟨q3, hu3, hv3⟩, kM, kT⟩; have HU3 := Lib.hid hu3; have HV3 := Lib.hid hv3; have HM3 := Lib.hid kM; have HT3 := Lib.hid kT; clear hu3 hv3 kM kT)
                | fail)
              obtain ⟨D1, hD1⟩ : ∃ D1, digL mu = D1 := ⟨_, rfl⟩
              obtain ⟨D2, hD2⟩ : ∃ D2, digL zmo = D2 := ⟨_, rfl⟩
              obtain ⟨F, hF⟩ : ∃ F, flagsF zk = F := ⟨_, rfl⟩
              have hten : ∀ W, Below wq.heap.size wq W → TensV W := fun W hb => H.out.tens W ((HU3.out.later hb).below H.out.base H.out.own)
              have hd1 := fun W (hb : Below wq.heap.size wq W) => digits_any mu HMUID.out W (hten W hb)
              have hd2 := fun W (hb : Below wq.heap.size wq W) => digits_any zmo HZOK.out.mod W (hten W hb)
              have hli := fun W (hb : Below wq.heap.size wq W) => list_any W (.slice za nk zc) nk zk HNK.out (by rw [← HNK.out]; exact HZOK.out.few) (HPART.out W (HU3.out.later hb).there) HZOK.out.short
              have hFe : (40 :: J zk nk ++ [41]) = F := by rw [← hF, ← HNK.out]; rfl
              rw [hD1] at hd1
              rw [hD2] at hd2
              simp only [hFe] at hli
              have hsay : ∀ W X, Below wq.heap.size wq W → Blk W X 9 #[.string ⟨fetchW.toArray⟩, .string ⟨D1.toArray⟩, .string ⟨flagsW.toArray⟩, .string ⟨F.toArray⟩, .string ⟨(77 :: 79 :: 68 :: 83 :: 69 :: 81 :: 32 :: 40 :: (D2 ++ [41, 41])).toArray⟩] → Calls Tryz.prog 45 #[.int .i64 ((k : Int) + 1), .slice (some ⟨X, 0, none⟩) 5 5, .pointer (some ⟨s, 0, none⟩)] W fun e w' => e = .returned (.tuple #[]) ∧ UpR w w' gv qv q3 ⟨v.box, (l1.take (k + 1)).map (turnM zs) ++ l1.drop (k + 1), v.had⟩ (t1 ++ turnT flagsF zs 0 (l1.take (k + 1))) s b9 (.slice A9 nl c9) l ∧ w'.cell? ⟨M0, 0, none⟩ = some (.int .i64 mu) ∧ w'.cell? ⟨T0, 5, none⟩ = some (.slice za nk zc) ∧ w'.cell? ⟨T0, 7, none⟩ = some (.int .i64 zmo) := fun W X hb hX => by
                have hu := HU3.out.later hb
                have hws : [fetchW, D1, flagsW, F, 77 :: 79 :: 68 :: 83 :: 69 :: 81 :: 32 :: 40 :: (D2 ++ [41, 41])] = fetchWs mu ⟨zi, zth, ztx, zat, zk, zme, zmo, zbo⟩ := by
                  unfold fetchWs
                  rw [hD1, ← hD2, ← hF]
                  simp [modW]
                have h1 := say_any W ((k : Int) + 1) (by omega) _ 5 [fetchW, D1, flagsW, F, 77 :: 79 :: 68 :: 83 :: 69 :: 81 :: 32 :: 40 :: (D2 ++ [41, 41])] rfl (by omega) (by omega) (five_texts hX) w.heap.size s _ hu.bld hu.turned.chg.size HTL.out (by rw [hws]; have := fetch_len HZOK.out mu HMUID.out; exact Nat.le_trans this (by omega)) (H.out.tens W (hu.below H.out.base H.out.own))
                rw [hws] at h1
                refine h1.mono ?_
                rintro e w' ⟨rfl, k1, k2, k3⟩
                have hu2 := hu.said k1 k2 k3
                rw [HTX.out _ (fetch_join k mu ⟨zi, zth, ztx, zat, zk, zme, zmo, zbo⟩).symm] at hu2
                have kM := k3.block _ _ _ (by unfold EV; decide) (HM3.out.below hb HM3.out.lt)
                have kT := k3.block _ _ _ (by unfold EV; decide) (HT3.out.below hb HT3.out.lt)
                exact ⟨rfl, hu2, kM.cell 0, kT.cell 5, kT.cell 7⟩
              have hK : ∀ W, Below wq.heap.size wq W → W.cell? ⟨M0, 0, none⟩ = some (.int .i64 mu) ∧ W.cell? ⟨T0, 5, none⟩ = some (.slice za nk zc) ∧ W.cell? ⟨T0, 7, none⟩ = some (.int .i64 zmo) := fun W hb => ⟨(HM3.out.below hb HM3.out.lt).cell 0, (HT3.out.below hb HT3.out.lt).cell 5, (HT3.out.below hb HT3.out.lt).cell 7⟩
              have hdl2 : D2.length ≤ 21 := by rw [← hD2]; exact digL_le zmo HZOK.out.mod
              have n1 : ¬ 9223372036854775807 < 8 + D2.length := by omega
              have n2 : ¬ 9223372036854775807 < 8 + D2.length + 2 := by omega
              have n3 : ¬ 9223372036854775807 < D2.length + 8 + 2 := by omega
              have n4 : ¬ 9223372036854775807 < D2.length + 10 := by omega
              have n5 : ¬ 9223372036854775807 < D2.length + 1 + 1 + 1 + 1 + 1 + 1 + 1 + 1 + 2 := by omega
              have hap : ∀ a b : List UInt8, ByteArray.mk a.toArray ++ ByteArray.mk b.toArray = ByteArray.mk (a ++ b).toArray := fun a b => ByteArray.mk_append_mk a b
              have HD1 := Lib.hid hd1
              have HD2 := Lib.hid hd2
              have HLI := Lib.hid hli
              have HSAY := Lib.hid hsay
              have HK := Lib.hid hK
              clear hd1 hd2 hli hsay hK hten hD1 hD2 hF hFe m2 y7 d0 d1 d2
              go_region_held3 (fun W => W.cell? ⟨M0, 0, none⟩ = some (.int .i64 mu) ∧ W.cell? ⟨T0, 5, none⟩ = some (.slice za nk zc) ∧ W.cell? ⟨T0, 7, none⟩ = some (.int .i64 zmo))
                (first
                  | exact HK9.out
                  | exact HK.out _ (below_then HB7.out (below_alloc1 _ _))
                  | exact HK.out _ HB7.out
                  | exact HK.out _ HB6q.out
                  | exact HK.out _ HB5q.out
                  | exact HK.out _ (below_then HB7.out (below_drew1 _))
                  | exact HK.out _ (below_then HB6q.out (below_drew1 _))
                  | exact HK.out _ (below_then HB5q.out (below_drew1 _))
                  | exact HK.out _ (Below.refl _ _)
                  | exact HK.out _ (below_drew1 _)
                  | go_keep)
                (first
                  | (go_at_call 45; refine (HSAY.out _ _ (below_then HB7.out (below_alloc1 _ _)) (Blk.new _ _ _)).mono ?_; rintro e w9 ⟨rfl, hu9, hk9⟩; have HU9 := Lib.hid hu9; have HK9 := Lib.hid hk9; clear hu9 hk9)
                  | (go_at_call 47; (with_reducible refine (HD2.out _ (by first | exact HB6q.out | exact below_then HB6q.out (below_drew1 _))).mono ?_); rintro e w7 ⟨rfl, hb7⟩; have HB7 : Hid (Below wq.heap.size wq w7) := Lib.hid (by first | exact below_then HB6q.out hb7 | exact below_then (below_then HB6q.out (below_drew1 _)) hb7); clear hb7)
                  | (go_at_call 55; refine (HLI.out _ (by first | exact HB5q.out | exact below_then HB5q.out (below_drew1 _))).mono ?_; rintro e w6q ⟨rfl, hb6⟩; have HB6q : Hid (Below wq.heap.size wq w6q) := Lib.hid (by first | exact below_then HB5q.out hb6 | exact below_then (below_then HB5q.out (below_drew1 _)) hb6); clear hb6)
                  | (go_at_call 47; (with_reducible refine (HD1.out _ (by first | exact Below.refl _ _ | exact below_drew1 _)).mono ?_); rintro e w5q ⟨rfl, hb5⟩; have HB5q : Hid (Below wq.heap.size wq w5q) := Lib.hid (by first | exact hb5 | exact below_then (below_drew1 wq) hb5); clear hb5)
                  | fail)
              all_goals
                clear n1 n2 n3 n4 n5 hap hdl2
                go_wp2_with fail
                refine ⟨?_, by simp [intOf]; omega⟩
                first | exact ⟨k + 1, q3, by omega, by go_num, HU9, HV3⟩ | ((repeat apply Exists.intro); exact ⟨⟨k + 1, q3, by omega, by go_num, HU9, HV3⟩, rfl⟩)
            · have hcd : decide (mt < zmo) = false := decide_eq_false hc
              have HST : Hid (∀ W, Below wr.heap.size wr W → UpR w W gv qv q2 ⟨v.box, (l1.take (k + 1)).map (turnM zs) ++ l1.drop (k + 1), v.had⟩ (t1 ++ turnT flagsF zs 0 (l1.take (k + 1))) s b9 (.slice A9 nl c9) l) := Lib.hid (fun W hb => hstill W hb (by rw [hcm2]; exact turn_same k hfz hc))
              clear hfind hfo hfz hcm hmm hstill htold hcm2 hlen2 hkl hi1 hi2 hmuid hzmem hzok hpart hnk hnm hld hc
              go_upto_region 18 with (first
                | (go_at_call 49; refine HFI.out.mono ?_; rintro e w5 ⟨rfl, hb5⟩; have HB5 := Lib.hid hb5; clear hb5)
                | fail)
              obtain ⟨T0, hT0⟩ : ∃ T0, w5.heap.size = T0 := ⟨_, rfl⟩
              obtain ⟨w6, hw6⟩ : ∃ w6 : World, w6 = w5.alloc (.cells #[.int .i64 zu, .int .i64 zi, .int .i64 zth, .string ⟨ztx.toArray⟩, .int .i64 zat, .slice za nk zc, .slice zb nm zd, .int .i64 zmo, .int .i64 zbo] 92) := ⟨_, rfl⟩
              have HB6 : Hid (Below wr.heap.size wr w6) := Lib.hid (by rw [hw6]; exact below_then (below_then HBM.out HB5.out) (below_alloc1 _ _))
              have HBM6 : Hid (Blk w6 M0 96 #[.int .i64 mu, .int .i64 mi, .pointer (some ⟨tt, 0, none⟩)]) := Lib.hid (by rw [hw6]; exact (HBMM.out.below HB5.out HBMM.out.lt).alloc _)
              have HBT6 : Hid (Blk w6 T0 92 #[.int .i64 zu, .int .i64 zi, .int .i64 zth, .string ⟨ztx.toArray⟩, .int .i64 zat, .slice za nk zc, .slice zb nm zd, .int .i64 zmo, .int .i64 zbo]) := Lib.hid (by rw [hw6, ← hT0]; exact Blk.new _ _ _)
              rw [← hw6]
              try rw [hT0]
              try rw [hM0]
              have m2 : w6.cell? ⟨M0, 2, none⟩ = some (.pointer (some ⟨tt, 0, none⟩)) := HBM6.out.cell 2
              have y7 : w6.cell? ⟨T0, 7, none⟩ = some (.int .i64 zmo) := HBT6.out.cell 7
              have hld6 := fun n => HLD.out (w6.drewN n) (below_drewN' HB6.out n)
              clear hw6 hT0 hM0
              go_quiet ((go_at_call 53; exact qsameV (hld6 _)))
              go_wp2_with fail
              refine ⟨?_, by simp [intOf]; omega⟩
              first | exact ⟨k + 1, q2, by omega, by go_num, Lib.hid (HST.out _ (below_drewN' HB6.out _)), HV2⟩ | ((repeat apply Exists.intro); exact ⟨⟨k + 1, q2, by omega, by go_num, Lib.hid (HST.out _ (below_drewN' HB6.out _)), HV2⟩, rfl⟩)
        · have hltz : ¬ (k : Int) < (nc : Int) := by omega
          have hkn : k = nc := by omega
          subst hkn
          have hfin : UpR w wr gv qv q2 ⟨v.box, l1.map (turnM zs), v.had⟩ (t1 ++ turnT flagsF zs 0 l1) s b9 (.slice A9 nl c9) l := by
            have h1 := HU.out
            rw [List.take_of_length_le (by rw [HNC.out]; exact Nat.le_refl _), List.drop_of_length_le (by rw [HNC.out]; exact Nat.le_refl _), List.append_nil] at h1
            exact h1
          have HFIN := Lib.hid hfin
          clear hfin
          go_wp2_with fail
          go_meet
          exact ⟨_, HFIN⟩
    case rest =>
      clear hR0 HV0 c1
      obtain ⟨q2, HU⟩ := hcut
      obtain ⟨w3, rfl⟩ : ∃ w3 : World, w3 = wc := ⟨_, rfl⟩
      obtain ⟨l2, hl2⟩ : ∃ l2, l1.map (turnM zs) = l2 := ⟨_, rfl⟩
      obtain ⟨T2, hT2⟩ : ∃ T2, t1 ++ turnT flagsF zs 0 l1 = T2 := ⟨_, rfl⟩
      rw [hl2, hT2] at HU
      have hl2n : l2.length = nc := by rw [← hl2, List.length_map, HNC.out]
      have hT2l : T2.length ≤ 1099511627776 := by
        have h1 := HT1L.out
        have h2 := turnT_len (fun z hz => H.out.zok z hz) l1 0 HMU1.out (by rw [HNC.out]; omega)
        have h3 := HNC.out
        rw [← hT2, List.length_append]
        omega
      have HL2 := Lib.hid hl2
      have HTT := Lib.hid hT2
      have HLN2 := Lib.hid hl2n
      have HTL2 := Lib.hid hT2l
      obtain ⟨Am2, cm2, hvl, _, _⟩ := HU.out.turned.at_.msgs.form
      have hvl2 : q2.vl = .slice Am2 nc cm2 := by rw [← hl2n]; exact hvl
      have c1 : w3.cell? ⟨gv, 1, none⟩ = some (.slice Am2 nc cm2) := by
        rw [HU.out.turned.at_.blk.cell 1, ← hvl2]
        rfl
      have c2 : w3.cell? ⟨gv, 2, none⟩ = some (.int .i64 v.had) := HU.out.turned.at_.blk.cell 2
      have y9 : w3.cell? ⟨b9, 0, none⟩ = some (.slice A9 nl c9) := HU.out.box.cell 0
      have hR1 : ∀ n, Hid (UpR w (w3.drewN n) gv qv q2 (freshV v.had (zs.take 0) ⟨v.box, l2, v.had⟩) T2 s b9 (.slice A9 nl c9) l) := fun n => Lib.hid (HU.out.later (below_drewN' (Below.refl _ _) n))
      have HR1 := Lib.hid hR1
      clear hl2 hT2 hl2n hT2l hvl hvl2 HU hR1
      go_upto_region 22 with (fail)
      go_quiet (fail)
      go_upto_block 4 with (fail)
      go_cut [] (fun wx => ∃ q3, Hid (UpR w wx gv qv q3 (freshV v.had zs ⟨v.box, l2, v.had⟩) T2 s b9 (.slice A9 nl c9) l))
      case first =>
        go_wp2_with fail
        go_loopw [135] (fun i wr => ∃ (k : Nat) (q3 : VLies), k ≤ nl ∧ i = .int .i64 k ∧ Hid (UpR w wr gv qv q3 (freshV v.had (zs.take k) ⟨v.box, l2, v.had⟩) T2 s b9 (.slice A9 nl c9) l)) (fun i _ => nl - (intOf i).toNat)
        case atStart => exact ⟨0, q2, Nat.zero_le _, rfl, HR1.out _⟩
        case round =>
          clear HR1 c1 c2 y9
          obtain ⟨k, q3, hk, rfl, HU⟩ := hrel
          by_cases hlt : k < nl
          · have hltz : (k : Int) < (nl : Int) := by omega
            have hk0 : (0 : Int) ≤ (k : Int) := by omega
            have hkw : IntKind.i64.wrap ((k : Int) + 1) = (k : Int) + 1 := IntWalk.i64_in _ (by omega)
            have hkl : k < l.length := by rw [HNL.out]; exact hlt
            obtain ⟨z, hzz⟩ : ∃ z, l[k] = z := ⟨_, rfl⟩
            have hzk : zs[k]? = some z.z := by
              rw [← K1.out, List.getElem?_map, List.getElem?_eq_getElem hkl, hzz]
              rfl
            obtain ⟨b, off, cap, hv, _, _, hbl, _, hat⟩ := HU.out.there.rd.at_ (by omega)
            rw [HNL.out] at hv hat
            injection hv with hv3 _ hv4
            subst hv3 hv4
            have hat9 : ∀ j, j < 9 → wr.cell? ⟨b, off + k * 9 + j, none⟩ = (encTh z)[j]? := fun j hj => by
              rw [Nat.add_assoc, hat _ (by omega), flatG_get encTh_length l k j hkl hj, hzz]
            have hstep := fresh_step (had := v.had) (v := ⟨v.box, l2, v.had⟩) hzk
            have hlen : (freshV v.had (zs.take k) ⟨v.box, l2, v.had⟩).l.length ≤ 1099511627776 := by
              have h1 := fresh_len (had := v.had) (zs.take k) ⟨v.box, l2, v.had⟩
              have h2 := HLN2.out
              have h3 : (zs.take k).length ≤ nl := by rw [List.length_take]; omega
              have h4 : (⟨v.box, l2, v.had⟩ : ViewP).l.length = nc := h2
              rw [h4] at h1
              omega
            have hadd := fun W (hb : Below wr.heap.size wr W) => addv_any W gv q3 _ z (HU.out.later hb).turned.at_ hlen
            by_cases hc : v.had < z.u
            · rw [if_pos (show v.had < z.z.1 from hc)] at hstep
              have HADD : Hid (∀ W, Below wr.heap.size wr W → Calls Tryz.prog 42 #[.pointer (some ⟨gv, 0, none⟩), .agg (encTh z).toArray] W fun e w' => e = .returned (.tuple #[]) ∧ ∃ q4, Hid (UpR w w' gv qv q4 (freshV v.had (zs.take (k + 1)) ⟨v.box, l2, v.had⟩) T2 s b9 (.slice (some ⟨b, off, none⟩) nl c9) l)) := Lib.hid (fun W hb => (hadd W hb).mono fun e w' ⟨he, q4, hq4⟩ => ⟨he, q4, Lib.hid (by rw [hstep]; exact (HU.out.later hb).turn hq4)⟩)
              obtain ⟨zu, ⟨zi, zth, ztx, zat, zk, zme, zmo, zbo⟩, za, zc, zb, zd⟩ := z
              simp only [encTh, encM, ThM.m, strV] at hat9 HADD hc
              obtain ⟨nk, hnk⟩ : ∃ nk, zk.length = nk := ⟨_, rfl⟩
              obtain ⟨nm, hnm⟩ : ∃ nm, zme.length = nm := ⟨_, rfl⟩
              rw [hnk, hnm] at hat9 HADD
              have d0 : wr.cell? ⟨b, off + k * 9, none⟩ = some (.int .i64 zu) := hat9 0 (by omega)
              have d1 : wr.cell? ⟨b, off + k * 9 + 1, none⟩ = some (.int .i64 zi) := hat9 1 (by omega)
              have d2 : wr.cell? ⟨b, off + k * 9 + 2, none⟩ = some (.int .i64 zth) := hat9 2 (by omega)
              have d3 : wr.cell? ⟨b, off + k * 9 + 3, none⟩ = some (.string ⟨ztx.toArray⟩) := hat9 3 (by omega)
              have d4 : wr.cell? ⟨b, off + k * 9 + 4, none⟩ = some (.int .i64 zat) := hat9 4 (by omega)
              have d5 : wr.cell? ⟨b, off + k * 9 + 5, none⟩ = some (.slice za nk zc) := hat9 5 (by omega)
              have d6 : wr.cell? ⟨b, off + k * 9 + 6, none⟩ = some (.slice zb nm zd) := hat9 6 (by omega)
              have d7 : wr.cell? ⟨b, off + k * 9 + 7, none⟩ = some (.int .i64 zmo) := hat9 7 (by omega)
              have d8 : wr.cell? ⟨b, off + k * 9 + 8, none⟩ = some (.int .i64 zbo) := hat9 8 (by omega)
              have hcd : decide (v.had < zu) = true := decide_eq_true hc
              have HBA2 := Lib.hid (below_alloc1 wr (.cells #[.int .i64 zu, .int .i64 zi, .int .i64 zth, .string ⟨ztx.toArray⟩, .int .i64 zat, .slice za nk zc, .slice zb nm zd, .int .i64 zmo, .int .i64 zbo] 92))
              clear hat hat9 hadd hlen hzz hnk hnm hstep hzk hc
              go_wp2_with (first
                | (go_at_call 42; refine (HADD.out _ HBA2.out).mono ?_; rintro e w7 ⟨rfl, q4, HN7⟩)
                | fail)
              refine ⟨?_, by simp [intOf]; omega⟩
              first | exact ⟨k + 1, q4, by omega, by go_num, HN7⟩ | ((repeat apply Exists.intro); exact ⟨⟨k + 1, q4, by omega, by go_num, HN7⟩, rfl⟩)
            · rw [if_neg (show ¬ v.had < z.z.1 from hc)] at hstep
              obtain ⟨zu, ⟨zi, zth, ztx, zat, zk, zme, zmo, zbo⟩, za, zc, zb, zd⟩ := z
              simp only [encTh, encM, ThM.m, strV] at hat9 hc
              obtain ⟨nk, hnk⟩ : ∃ nk, zk.length = nk := ⟨_, rfl⟩
              obtain ⟨nm, hnm⟩ : ∃ nm, zme.length = nm := ⟨_, rfl⟩
              rw [hnk, hnm] at hat9
              have d0 : wr.cell? ⟨b, off + k * 9, none⟩ = some (.int .i64 zu) := hat9 0 (by omega)
              have d1 : wr.cell? ⟨b, off + k * 9 + 1, none⟩ = some (.int .i64 zi) := hat9 1 (by omega)
              have d2 : wr.cell? ⟨b, off + k * 9 + 2, none⟩ = some (.int .i64 zth) := hat9 2 (by omega)
              have d3 : wr.cell? ⟨b, off + k * 9 + 3, none⟩ = some (.string ⟨ztx.toArray⟩) := hat9 3 (by omega)
              have d4 : wr.cell? ⟨b, off + k * 9 + 4, none⟩ = some (.int .i64 zat) := hat9 4 (by omega)
              have d5 : wr.cell? ⟨b, off + k * 9 + 5, none⟩ = some (.slice za nk zc) := hat9 5 (by omega)
              have d6 : wr.cell? ⟨b, off + k * 9 + 6, none⟩ = some (.slice zb nm zd) := hat9 6 (by omega)
              have d7 : wr.cell? ⟨b, off + k * 9 + 7, none⟩ = some (.int .i64 zmo) := hat9 7 (by omega)
              have d8 : wr.cell? ⟨b, off + k * 9 + 8, none⟩ = some (.int .i64 zbo) := hat9 8 (by omega)
              have hcd : decide (v.had < zu) = false := decide_eq_false hc
              have HN7 : Hid (UpR w (wr.alloc (.cells #[.int .i64 zu, .int .i64 zi, .int .i64 zth, .string ⟨ztx.toArray⟩, .int .i64 zat, .slice za nk zc, .slice zb nm zd, .int .i64 zmo, .int .i64 zbo] 92)) gv qv q3 (freshV v.had (zs.take (k + 1)) ⟨v.box, l2, v.had⟩) T2 s b9 (.slice (some ⟨b, off, none⟩) nl c9) l) := Lib.hid (by rw [hstep]; exact HU.out.later (below_alloc1 _ _))
              clear hat hat9 hadd hlen hzz hnk hnm hstep hzk hc
              go_wp2_with fail
              refine ⟨?_, by simp [intOf]; omega⟩
              first | exact ⟨k + 1, q3, by omega, by go_num, HN7⟩ | ((repeat apply Exists.intro); exact ⟨⟨k + 1, q3, by omega, by go_num, HN7⟩, rfl⟩)
          · have hltz : ¬ (k : Int) < (nl : Int) := by omega
            have hkn : k = nl := by omega
            subst hkn
            have HF : Hid (UpR w wr gv qv q3 (freshV v.had zs ⟨v.box, l2, v.had⟩) T2 s b9 (.slice A9 k c9) l) := Lib.hid (by
              have h1 := HU.out
              rw [List.take_of_length_le (by rw [← K1.out, List.length_map, HNL.out]; exact Nat.le_refl _)] at h1
              exact h1)
            go_wp2_with fail
            go_meet
            exact ⟨_, HF⟩
      case rest =>
        clear HR1 c1 c2 y9
        obtain ⟨q3, HU⟩ := hcut
        obtain ⟨w4, rfl⟩ : ∃ w4 : World, w4 = wc := ⟨_, rfl⟩
        obtain ⟨v3, hv3⟩ : ∃ v3, freshV v.had zs ⟨v.box, l2, v.had⟩ = v3 := ⟨_, rfl⟩
        rw [hv3] at HU
        obtain ⟨n3, hn3⟩ : ∃ n3, v3.l.length = n3 := ⟨_, rfl⟩
        have hn3b : n3 ≤ 1099511627776 := by
          have h1 := fresh_len (had := v.had) zs ⟨v.box, l2, v.had⟩
          have h2 := HLN2.out
          have h3 := H.out.zlen
          have h4 : (⟨v.box, l2, v.had⟩ : ViewP).l.length = nc := h2
          rw [hv3, hn3, h4] at h1
          omega
        obtain ⟨Am3, cm3, hvl, _, _⟩ := HU.out.turned.at_.msgs.form
        rw [hn3] at hvl
        have c1 : w4.cell? ⟨gv, 1, none⟩ = some (.slice Am3 n3 cm3) := by
          rw [HU.out.turned.at_.blk.cell 1, ← hvl]
          rfl
        have hres : updateV flagsF zs v all = (T2 ++ (if nc < n3 then sayT n3 existsT else []), v3) := by
          have e1 := HL1.out
          have e2 := HT1.out
          have e3 := HTT.out
          have e4 := HL2.out
          have e5 := HNC.out
          unfold updateV
          simp only [← e1, ← e2, e4, hv3, hn3, e5, e3]
        have hbu := fun (tx : Text) W (hu : UpR w W gv qv q3 v3 tx s b9 (.slice A9 nl c9) l) => (build_any w.heap.size s tx W hu.bld hu.turned.chg.size).mono (fun e w' (h : e = .returned (.string ⟨tx.toArray⟩) ∧ Below w.heap.size W w' ∧ Lib.OthersKept 5 (some s) W w') => (show e = .returned (.string ⟨tx.toArray⟩) ∧ VTurned w w' gv qv v3 q3 from by
          obtain ⟨cs, hcs⟩ := hu.bld.blk
          exact ⟨h.1, hu.fin h.2.1 (TKeep.others h.2.2 hcs h.2.1.size (fun h => h.1 rfl) (fun h => h.2 rfl))⟩))
        have HBU := Lib.hid hbu
        have HRES := Lib.hid hres
        by_cases hc : nc < n3
        · have hcd : (nc : Int) < (n3 : Int) := by omega
          have HSAY : Hid (∀ W X, Below w4.heap.size w4 W → Blk W X 9 #[.string ⟨existsT.toArray⟩] → Calls Tryz.prog 45 #[.int .i64 n3, .slice (some ⟨X, 0, none⟩) 1 1, .pointer (some ⟨s, 0, none⟩)] W fun e w' => e = .returned (.tuple #[]) ∧ UpR w w' gv qv q3 v3 (T2 ++ sayT n3 existsT) s b9 (.slice A9 nl c9) l) := Lib.hid (fun W X hb hX => by
            have hu := HU.out.later hb
            have h1 := say_any W (n3 : Int) (by omega) _ 1 [existsT] rfl (by omega) (by omega) (one_text hX) w.heap.size s T2 hu.bld hu.turned.chg.size HTL2.out (by rw [Lib.join_one]; decide) (H.out.tens W (hu.below H.out.base H.out.own))
            rw [Lib.join_one] at h1
            refine h1.mono ?_
            rintro e w' ⟨rfl, k1, k2, k3⟩
            exact ⟨rfl, hu.said k1 k2 k3⟩)
          have hr2 : updateV flagsF zs v all = (T2 ++ sayT n3 existsT, v3) := by rw [HRES.out, if_pos hc]
          have HR2 := Lib.hid hr2
          clear hv3 hn3 hvl hres hbu hr2 hc
          go_wp2_with (first
            | (go_at_call 45; refine (HSAY.out _ _ (below_alloc1 _ _) (Blk.new _ _ _)).mono ?_; rintro e w8 ⟨rfl, hu8⟩; have HU8 := Lib.hid hu8; clear hu8)
            | (go_at_call 56; refine (HBU.out _ _ HU8.out).mono ?_; rintro e w9 ⟨rfl, hv9⟩; have HV9 := Lib.hid hv9; clear hv9)
            | fail)
          go_ret
          rw [HR2.out]
          exact ⟨rfl, _, HV9.out⟩
        · have hcd : ¬ (nc : Int) < (n3 : Int) := by omega
          have hr2 : updateV flagsF zs v all = (T2, v3) := by rw [HRES.out, if_neg hc, List.append_nil]
          have HR2 := Lib.hid hr2
          clear hv3 hn3 hvl hres hbu hr2 hc
          go_wp2_with (first
            | (go_at_call 56; refine (HBU.out _ _ HU.out).mono ?_; rintro e w9 ⟨rfl, hv9⟩; have HV9 := Lib.hid hv9; clear hv9)
            | fail)
          go_ret
          rw [HR2.out]
          exact ⟨rfl, _, HV9.out⟩

end Go.Proofs.YtgkfknbhkonfdaaGreatDoor
