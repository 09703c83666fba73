/-
  The walk of view.New over a mailbox that there is.
  What the view's Update keeps from step to step: the view, the text so far, the mailbox's emails.
  How long the texts of an update are.
  The walks of the view's Uids and Ids, and of what a view that there is not answers.
  The walk of the view's Told, of a message that there is.
-/
import Derived.Test.YtgkfknbhkonfdaaGreatDoorGVC
import Derived.Test.YtgkfknbhkonfdaaGreatDoorGVB
import Derived.Test.YtgkfknbhkonfdaaGreatDoorGD
import Derived.Test.YtgkfknbhkonfdaaGreatDoorGVA
import Derived.Test.YtgkfknbhkonfdaaGreatDoorGN
import Derived.Deep.QuietTactic
namespace Go.Proofs.YtgkfknbhkonfdaaGreatDoor
open Go.Shelf Go.RowKit Go.Lib
attribute [local go_sem ↓] Go.wp_at_zero Go.wp_at_succ

set_option maxRecDepth 100000 in
theorem newPred_any (box : Int) (B : Nat) (w W : World) (x : BoxP) (h0 : w.cell? ⟨B, 0, none⟩ = some (.int .i64 box)) (hlt : B < w.heap.size) (hb : Below w.heap.size w W) :
    Calls Tryz.prog 40 #[.agg (encB x).toArray, .pointer (some ⟨B, 0, none⟩)] W fun e w' => e = .returned (.bool (decide (x.id = box))) ∧ Below W.heap.size W w' := by
  have k0 : W.cell? ⟨B, 0, none⟩ = some (.int .i64 box) := (hb.cell hlt).trans h0
  have hltW : B < W.heap.size := Nat.lt_of_lt_of_le hlt hb.size
  have hne : B ≠ W.heap.size := by omega
  obtain ⟨a, b, c, d, e, f⟩ := x
  simp only [encB, strV]
  obtain ⟨bb, hbb⟩ : ∃ bb, decide (a = box) = bb := ⟨_, rfl⟩
  have d2 : (a == box) = bb := by rw [← hbb]; rfl
  rw [hbb]
  clear hbb h0 hb
  go_enter Tryz.func40, Tryz.ntmps40
  go_wp2
  go_ret
  exact ⟨rfl, (Below.refl _ _).alloc (Nat.le_refl _) _⟩

theorem fold_box : ∀ (zs : List (Int × MailP)) (v : ViewP), (zs.foldl addV v).box = v.box ∧ (zs.foldl addV v).l.length = v.l.length + zs.length
  | [], _ => ⟨rfl, rfl⟩
  | z :: r, v => by
    obtain ⟨h1, h2⟩ := fold_box r (addV v z)
    rw [List.foldl_cons]
    refine ⟨h1, h2.trans ?_⟩
    show (v.l ++ [_]).length + r.length = _
    rw [List.length_append, List.length_singleton, List.length_cons]
    omega
structure NewR (w wr : World) (gv : Nat) (q : VLies) (box : Int) (zs : List (Int × MailP)) (v : Value) (l : List ThM) (k : Nat) : Prop where
  at_ : ViewAt wr gv q (newV box (zs.take k))
  own : ∀ i ∈ q.own gv, w.heap.size ≤ i
  there : ThereAt wr v l
  below : Below w.heap.size w wr
theorem NewR.next {w wr W w' : World} {gv k : Nat} {q q' : VLies} {box : Int} {zs : List (Int × MailP)} {v : Value} {l : List ThM} (h : NewR w wr gv q box zs v l k) (hz : l.map ThM.z = zs) (hk : k < l.length) (hb : Below wr.heap.size wr W) (hv : VTurned W w' gv q (addV (newV box (zs.take k)) l[k].z) q') : NewR w w' gv q' box zs v l (k + 1) := by
  have hat := h.at_.later hb
  have hsz := below_then h.below hb
  refine ⟨?_, fun i hi => ?_, (h.there.later hb).tkeep (E := fun t => ¬ VTy t) (TKeep.of_chg hv.chg fun i hi => ?_) (by unfold VTy; decide) (by unfold VTy; decide) (by unfold VTy; decide), hsz.trans (hv.chg.below hsz.size h.own)⟩
  · have h1 : newV box (zs.take (k + 1)) = addV (newV box (zs.take k)) l[k].z := by
      unfold newV
      have hkz : k < zs.length := by rw [← hz, List.length_map]; exact hk
      rw [List.take_succ_eq_append_getElem hkz, List.foldl_append]
      have : zs[k] = l[k].z := by simp [← hz]
      rw [this]
      rfl
    rw [h1]
    exact hv.at_
  · rcases hv.own i hi with h1 | h1
    · exact h.own i h1
    · exact Nat.le_trans hsz.size h1
  · obtain ⟨t, cs, hB, hT⟩ := hat.typed hi
    exact ⟨t, cs, hB, fun h => h hT⟩

set_option maxRecDepth 100000 in
set_option maxHeartbeats 4000000 in
theorem newView_any (w : World) (g : Nat) (q : Lies) (x : Acc) (h : StoreAt w g q x) (hn : SmallM x) (hbn : x.boxes.length ≤ 1099511627776) (box : Int) (hbx : hasBox x.boxes box = true) (zs : List (Int × MailP)) (hp : zs.Perm (thereL x.mails box)) (hr : (zs.map (·.1)).Pairwise (· < ·)) (hz : zs.length ≤ 1099511627776) :
    Calls Tryz.prog 12 #[.pointer (some ⟨g, 0, none⟩), .int .i64 box] w fun e w' => ∃ gv qv, e = .returned (.tuple #[.pointer (some ⟨gv, 0, none⟩), .int .i64 0]) ∧ OwnView w w' gv qv (newV box zs) ∧ Below w.heap.size w w' := by
  have eg : ∀ args w, (callFunc 40 args).run Tryz.prog w = .ok (.enter 40 args) w := enters_of Tryz.func40 (by kernel_rfl) rfl
  obtain ⟨s, hs⟩ : ∃ s, w.heap.size = s := ⟨_, rfl⟩
  have hb1 := below_alloc1 w (.cells #[.int .i64 box] 3)
  have hB1 : Blk (w.alloc (.cells #[.int .i64 box] 3)) s 3 #[.int .i64 box] := by rw [← hs]; exact Blk.new w _ _
  have hbo := fun W (hb : Below w.heap.size w W) => boxes_any W g q x (h.later hb) hbn
  have hany : x.boxes.any (fun b => decide (b.id = box)) = true := hbx
  have hco := fun W (vv : Value) (hr : RdS W [] 6 vv x.boxes.length (flatG encB x.boxes)) (h0 : W.cell? ⟨s, 0, none⟩ = some (.int .i64 box)) (hl : s < W.heap.size) => hasB_any vv [] x.boxes (fun b => decide (b.id = box)) 40 #[.pointer (some ⟨s, 0, none⟩)] eg W hr hbn (fun W2 hb2 y _ => (newPred_any box s W W2 y h0 hl hb2).mono fun _ _ ⟨he, hb3⟩ => ⟨he, below_then hb2 hb3⟩)
  rw [hany] at hco
  have hwi := fun W (hb : Below w.heap.size w W) => withinV_any W g q x (h.later hb) hn box zs hp hr hz
  have hnil : ((⟨g, 0, none⟩ : Addr) == ⟨g, 0, none⟩) = true := by simp
  have HBO := Lib.hid hbo
  have HCO := Lib.hid hco
  have HWI := Lib.hid hwi
  have HB1 := Lib.hid hB1
  have HL1 := Lib.hid hb1
  have HSZ := Lib.hid hs
  clear hbo hco hwi hB1 hb1 h hn hbn hbx hp hr hany eg hnil
  go_enter Tryz.func12, Tryz.ntmps12
  go_wp2_with (first
    | (go_at_call 39; refine (HBO.out _ HL1.out).mono ?_; rintro e w2 ⟨v2, h2, rfl, k1, k2, k3⟩; have B2 := Lib.hid (HB1.out.below k3 HB1.out.lt); have L2 := Lib.hid (below_then HL1.out k3); have K1 := Lib.hid (k1.reads [] (by simp)); have y2 : w2.cell? ⟨s, 0, none⟩ = some (.int .i64 box) := B2.out.cell 0; have z2 : s < w2.heap.size := B2.out.lt; obtain ⟨A2, c2, rfl, _, _⟩ := k1.form; clear k1 k2 k3)
    | (go_at_call 38; refine (HCO.out w2 _ K1.out y2 z2).mono ?_; rintro e w3 ⟨rfl, k3⟩; have B3 := Lib.hid (B2.out.below k3 B2.out.lt); have L3 := Lib.hid (below_then L2.out k3); have y3 : w3.cell? ⟨s, 0, none⟩ = some (.int .i64 box) := B3.out.cell 0; have hs3 := B3.out.lt; have L4 := Lib.hid (below_then L3.out (below_alloc1 w3 (.cells #[.int .i64 box, .slice none 0 0, .int .i64 0] 85))); have y4 : (w3.alloc (.cells #[.int .i64 box, .slice none 0 0, .int .i64 0] 85)).cell? ⟨s, 0, none⟩ = some (.int .i64 box) := (B3.out.alloc _).cell 0; clear k3 y2 z2)
    | (go_at_call 41; refine (HWI.out _ L4.out).mono ?_; rintro e w5 ⟨v5, l, rfl, k1, k2, k3⟩; have K5 := Lib.hid k1; have T5 := Lib.hid k2; have L5 := Lib.hid (below_then L4.out k3); have V5 := Lib.hid ((Blk.new w3 85 #[.int .i64 box, .slice none 0 0, .int .i64 0]).below k3 (by simp)); obtain ⟨A5, c5, rfl, _, _⟩ := k2.rd.form; clear k1 k2 k3)
    | fail)
  obtain ⟨gv, hgv⟩ : ∃ gv, w3.heap.size = gv := ⟨_, rfl⟩
  rw [hgv] at V5
  try rw [hgv]
  have HGV : Hid (w.heap.size ≤ gv) := Lib.hid (by rw [← hgv]; exact L3.out.size)
  obtain ⟨n, hln⟩ : ∃ n, l.length = n := ⟨_, rfl⟩
  have hnb : n ≤ 1099511627776 := by rw [← hln, ← List.length_map (f := ThM.z), K5.out]; exact hz
  have hR0 : Hid (NewR w w5 gv ⟨none, .slice none 0 0, []⟩ box zs (.slice A5 l.length c5) l 0) := Lib.hid ⟨⟨V5.out, rfl, Sl.nil _ _ _, fun m hm => (by cases hm), List.nodup_nil⟩, fun i hi => (by
    rcases VLies.own_cases hi with rfl | h1 | ⟨m, hm, _⟩
    · exact HGV.out
    · cases h1
    · cases hm), T5.out, L5.out⟩
  have HLN := Lib.hid hln
  rw [hln] at hR0
  try rw [hln]
  clear hln hgv y3 hs3 y4
  go_loopw [25] (fun i wr => ∃ (k : Nat) (q' : VLies), k ≤ n ∧ i = .int .i64 k ∧ Hid (NewR w wr gv q' box zs (.slice A5 n c5) l k)) (fun i _ => n - (intOf i).toNat)
  case atStart => exact ⟨0, _, Nat.zero_le _, rfl, hR0⟩
  case round =>
    clear hR0
    obtain ⟨k, q', hk, rfl, HU⟩ := hrel
    by_cases hlt : k < n
    · have hltz : (k : Int) < (n : Int) := by omega
      have hk0 : (0 : Int) ≤ (k : Int) := by omega
      have hkw : IntKind.i64.wrap ((k : Int) + 1) = (k : Int) + 1 := IntWalk.i64_in _ (by omega)
      have hkl : k < l.length := by rw [HLN.out]; exact hlt
      obtain ⟨z, hzz⟩ : ∃ z, l[k] = z := ⟨_, rfl⟩
      obtain ⟨b, off, cap, hv, _, _, hbl, _, hat⟩ := HU.out.there.rd.at_ (by omega)
      rw [HLN.out] at hv hat
      injection hv with hv3 _ hv4
      subst hv3 hv4
      have hat9 : ∀ j, j < 9 → wr.cell? ⟨b, off + k * 9 + j, none⟩ = (encTh z)[j]? := fun j hj => by
        rw [Nat.add_assoc, hat _ (by omega), flatG_get encTh_length l k j hkl hj, hzz]
      have hlen : (newV box (zs.take k)).l.length ≤ 1099511627776 := by
        have h1 := (fold_box (zs.take k) ⟨box, [], 0⟩).2
        unfold newV
        rw [h1, List.length_take]
        show 0 + _ ≤ _
        omega
      have hadd := fun W (hb : Below wr.heap.size wr W) => addv_any W gv q' _ z (HU.out.at_.later hb) hlen
      have HADD : Hid (∀ W, Below wr.heap.size wr W → Calls Tryz.prog 42 #[.pointer (some ⟨gv, 0, none⟩), .agg (encTh z).toArray] W fun e w' => e = .returned (.tuple #[]) ∧ ∃ q2, Hid (NewR w w' gv q2 box zs (.slice (some ⟨b, off, none⟩) n c5) l (k + 1))) := Lib.hid (fun W hb => (hadd W hb).mono fun e w' ⟨he, q2, hq2⟩ => ⟨he, q2, Lib.hid (HU.out.next K5.out hkl hb (by rw [hzz]; exact hq2))⟩)
      obtain ⟨zu, ⟨zi, zth, ztx, zat, zk, zme, zmo, zbo⟩, za, zc, zb, zd⟩ := z
      simp only [encTh, encM, ThM.m, strV] at hat9 HADD
      obtain ⟨nk, hnk⟩ : ∃ nk, zk.length = nk := ⟨_, rfl⟩
      obtain ⟨nm, hnm⟩ : ∃ nm, zme.length = nm := ⟨_, rfl⟩
      rw [hnk, hnm] at hat9 HADD
      have d0 : wr.cell? ⟨b, off + k * 9, none⟩ = some (.int .i64 zu) := hat9 0 (by omega)
      have d1 : wr.cell? ⟨b, off + k * 9 + 1, none⟩ = some (.int .i64 zi) := hat9 1 (by omega)
      have d2 : wr.cell? ⟨b, off + k * 9 + 2, none⟩ = some (.int .i64 zth) := hat9 2 (by omega)
      have d3 : wr.cell? ⟨b, off + k * 9 + 3, none⟩ = some (.string ⟨ztx.toArray⟩) := hat9 3 (by omega)
      have d4 : wr.cell? ⟨b, off + k * 9 + 4, none⟩ = some (.int .i64 zat) := hat9 4 (by omega)
      have d5 : wr.cell? ⟨b, off + k * 9 + 5, none⟩ = some (.slice za nk zc) := hat9 5 (by omega)
      have d6 : wr.cell? ⟨b, off + k * 9 + 6, none⟩ = some (.slice zb nm zd) := hat9 6 (by omega)
      have d7 : wr.cell? ⟨b, off + k * 9 + 7, none⟩ = some (.int .i64 zmo) := hat9 7 (by omega)
      have d8 : wr.cell? ⟨b, off + k * 9 + 8, none⟩ = some (.int .i64 zbo) := hat9 8 (by omega)
      have HBA := Lib.hid (below_alloc1 wr (.cells #[.int .i64 zu, .int .i64 zi, .int .i64 zth, .string ⟨ztx.toArray⟩, .int .i64 zat, .slice za nk zc, .slice zb nm zd, .int .i64 zmo, .int .i64 zbo] 92))
      clear hat hat9 hadd hlen hzz hnk hnm
      go_wp2_with (first
        | (go_at_call 42; refine (HADD.out _ HBA.out).mono ?_; rintro e w7 ⟨rfl, q2, HN7⟩)
        | fail)
      refine ⟨?_, by simp [intOf]; omega⟩
      first | exact ⟨k + 1, q2, by omega, by go_num, HN7⟩ | ((repeat apply Exists.intro); exact ⟨⟨k + 1, q2, by omega, by go_num, HN7⟩, rfl⟩)
    · have hkn : k = n := by omega
      subst hkn
      have hltz : ¬ (k : Int) < (k : Int) := by omega
      have hzl : zs.take k = zs := List.take_of_length_le (by rw [← K5.out, List.length_map, HLN.out]; exact Nat.le_refl _)
      have hfin := HU.out.at_
      rw [hzl] at hfin
      have HFIN := Lib.hid hfin
      clear hfin hzl
      go_wp2_with fail
      go_ret2
      first | exact ⟨gv, q', rfl, ⟨HFIN.out, HU.out.own⟩, HU.out.below⟩ | exact ⟨gv, rfl, ⟨q', HFIN.out, HU.out.own⟩, (by rw [← HSZ.out]; exact HU.out.below)⟩

end Go.Proofs.YtgkfknbhkonfdaaGreatDoor

namespace Go.Proofs.YtgkfknbhkonfdaaGreatDoor
open Go.Shelf Go.RowKit Go.Lib

def flagsF (l : List Text) : Text := 40 :: J l l.length ++ [41]
theorem turn_snoc (flags : List Text → Text) (zs : List (Int × MailP)) : ∀ (l : List Msg) (i : Nat) (m : Msg), turnT flags zs i (l ++ [m]) = turnT flags zs i l ++ turnT flags zs (i + l.length) [m]
  | [], i, m => by simp [turnT]
  | y :: r, i, m => by
    have h := turn_snoc flags zs r (i + 1) m
    rw [List.cons_append]
    unfold turnT
    rw [h, List.append_assoc, List.length_cons, show i + 1 + r.length = i + (r.length + 1) by omega]
    rfl

/-- The first round, i of the list cur being known to be there. -/
structure GoneI (is : Msg → Bool) (L cur : List Msg) (i : Nat) (t : Text) : Prop where
  le : i ≤ cur.length
  text : goneT is 0 L = t ++ goneT is i (cur.drop i)
  list : L.filter is = cur.take i ++ (cur.drop i).filter is
  small : cur.length ≤ L.length
theorem GoneI.start (is : Msg → Bool) (L : List Msg) : GoneI is L L 0 [] := ⟨Nat.zero_le _, rfl, rfl, Nat.le_refl _⟩
theorem GoneI.keep {is : Msg → Bool} {L cur : List Msg} {i : Nat} {t : Text} (h : GoneI is L cur i t) (hi : i < cur.length) (hm : is cur[i] = true) : GoneI is L cur (i + 1) t := by
  have e : cur.drop i = cur[i] :: cur.drop (i + 1) := (List.drop_eq_getElem_cons hi)
  refine ⟨hi, ?_, ?_, h.small⟩
  · rw [h.text, e]
    conv => lhs; unfold goneT
    rw [if_pos hm]
  · rw [h.list, e, List.filter_cons_of_pos hm, List.take_succ_eq_append_getElem hi, List.append_assoc]
    rfl
theorem GoneI.drop {is : Msg → Bool} {L cur : List Msg} {i : Nat} {t : Text} (h : GoneI is L cur i t) (hi : i < cur.length) (hm : is cur[i] = false) : GoneI is L (cur.eraseIdx i) i (t ++ sayT (i + 1) expungeT) := by
  have e : cur.drop i = cur[i] :: cur.drop (i + 1) := (List.drop_eq_getElem_cons hi)
  have e1 : cur.eraseIdx i = cur.take i ++ cur.drop (i + 1) := List.eraseIdx_eq_take_drop_succ ..
  have hl : (cur.take i).length = i := by rw [List.length_take]; omega
  have e2 : (cur.eraseIdx i).drop i = cur.drop (i + 1) := by
    rw [e1]
    conv => lhs; rw [List.drop_append_of_le_length (by omega)]
    rw [List.drop_of_length_le (by omega), List.nil_append]
  have e3 : (cur.eraseIdx i).take i = cur.take i := by
    rw [e1, List.take_append_of_le_length (by omega), List.take_of_length_le (by omega)]
  have hlen := List.length_eraseIdx_of_lt hi
  refine ⟨by omega, ?_, ?_, by have := h.small; omega⟩
  · rw [h.text, e, e2]
    conv => lhs; unfold goneT
    rw [if_neg (by rw [hm]; decide), List.append_assoc]
  · rw [h.list, e, e2, e3, List.filter_cons_of_neg (by rw [hm]; decide)]
theorem GoneI.done {is : Msg → Bool} {L cur : List Msg} {i : Nat} {t : Text} (h : GoneI is L cur i t) (hi : ¬ i < cur.length) : t = goneT is 0 L ∧ cur = L.filter is := by
  have h1 : cur.drop i = [] := List.drop_of_length_le (by omega)
  have h2 : cur.take i = cur := List.take_of_length_le (by omega)
  have h3 := h.text
  have h4 := h.list
  rw [h1] at h3 h4
  rw [h2] at h4
  refine ⟨?_, ?_⟩
  · rw [h3]
    simp [goneT]
  · rw [h4]
    simp

/-- Where things stand within an update. -/
structure UpR (w wr : World) (gv : Nat) (qv q : VLies) (v : ViewP) (t : Text) (b7 b9 : Nat) (nv : Value) (l : List ThM) : Prop where
  turned : VTurned w wr gv qv v q
  bld : BldAt wr w.heap.size b7 t
  box : Blk wr b9 86 #[nv]
  there : ThereAt wr nv l
section
variable {w wr W w' : World} {gv b7 b9 : Nat} {qv q q' : VLies} {v v' : ViewP} {t s : Text} {nv : Value} {l : List ThM}
theorem UpR.later (h : UpR w wr gv qv q v t b7 b9 nv l) (hb : Below wr.heap.size wr W) : UpR w W gv qv q v t b7 b9 nv l :=
  ⟨h.turned.then hb, h.bld.later hb, h.box.below hb h.box.lt, h.there.later hb⟩
theorem UpR.turn (h : UpR w wr gv qv q v t b7 b9 nv l) (k : VTurned wr w' gv q v' q') : UpR w w' gv qv q' v' t b7 b9 nv l := by
  have hty : ∀ i ∈ q.own gv, ∃ t cs, Blk wr i t cs ∧ ¬ ¬ VTy t := fun i hi => by
    obtain ⟨t, cs, hB, hT⟩ := h.turned.at_.typed hi
    exact ⟨t, cs, hB, fun h => h hT⟩
  have hk : TKeep (fun t => ¬ VTy t) wr w' := TKeep.of_chg k.chg hty
  exact ⟨h.turned.trans k, h.bld.chg k.chg (fun i hi => h.turned.at_.typed hi), hk.block _ _ _ (by unfold VTy; decide) h.box, h.there.tkeep hk (by unfold VTy; decide) (by unfold VTy; decide) (by unfold VTy; decide)⟩
theorem UpR.said (h : UpR w wr gv qv q v t b7 b9 nv l) (k1 : BldAt w' w.heap.size b7 (t ++ s)) (k2 : Below w.heap.size wr w') (k3 : TKeep EV wr w') : UpR w w' gv qv q v (t ++ s) b7 b9 nv l := by
  refine ⟨⟨h.turned.at_.tkeep k3 (fun u hu => by unfold VTy at hu; unfold EV; rcases hu with rfl | rfl | rfl <;> decide), ?_, h.turned.own⟩, k1, k3.block _ _ _ (by unfold EV; decide) h.box, h.there.tkeep k3 (by unfold EV; decide) (by unfold EV; decide) (by unfold EV; decide)⟩
  have hc := h.turned.chg
  exact ⟨k2.os.trans hc.os, k2.tape.trans hc.tape, k2.output.trans hc.output, Nat.le_trans hc.size k2.size, fun i hi hn => (k2.block i hi).trans (hc.block i hi hn)⟩
theorem UpR.fin (h : UpR w wr gv qv q v t b7 b9 nv l) (k2 : Below w.heap.size wr w') (k3 : TKeep EV wr w') : VTurned w w' gv qv v q := by
  refine ⟨h.turned.at_.tkeep k3 (fun u hu => by unfold VTy at hu; unfold EV; rcases hu with rfl | rfl | rfl <;> decide), ?_, h.turned.own⟩
  have hc := h.turned.chg
  exact ⟨k2.os.trans hc.os, k2.tape.trans hc.tape, k2.output.trans hc.output, Nat.le_trans hc.size k2.size, fun i hi hn => (k2.block i hi).trans (hc.block i hi hn)⟩
theorem UpR.below {B : Nat} (h : UpR w wr gv qv q v t b7 b9 nv l) (hB : B ≤ w.heap.size) (hown : ∀ k ∈ qv.own gv, B ≤ k) : Below B w wr := h.turned.chg.below hB hown
end
theorem fresh_step {had : Int} {zs : List (Int × MailP)} {v : ViewP} {k : Nat} {z : Int × MailP} (h : zs[k]? = some z) : freshV had (zs.take (k + 1)) v = if had < z.1 then addV (freshV had (zs.take k) v) z else freshV had (zs.take k) v := by
  obtain ⟨hk, he⟩ := List.getElem?_eq_some_iff.1 h
  unfold freshV
  rw [List.take_succ_eq_append_getElem hk, List.foldl_append, he]
  rfl
theorem fresh_len {had : Int} : ∀ (zs : List (Int × MailP)) (v : ViewP), (freshV had zs v).l.length ≤ v.l.length + zs.length
  | [], _ => Nat.le_refl _
  | z :: r, v => by
    have h := fresh_len (had := had) r (if had < z.1 then addV v z else v)
    unfold freshV at h ⊢
    rw [List.foldl_cons, List.length_cons]
    refine Nat.le_trans h ?_
    split
    · show (v.l ++ [_]).length + r.length ≤ _
      rw [List.length_append, List.length_singleton]
      omega
    · omega
/-- How many messages a view has, off memory. -/
def lenV (w : World) (g : Nat) : Nat := match w.cell? ⟨g, 1, none⟩ with
  | some (.slice _ n _) => n
  | _ => 0
theorem ViewAt.lenV {w : World} {g : Nat} {q : VLies} {v : ViewP} (h : ViewAt w g q v) : lenV w g = v.l.length := by
  obtain ⟨A, c, hv, _, _⟩ := h.msgs.form
  have h1 : w.cell? ⟨g, 1, none⟩ = some q.vl := h.blk.cell 1
  unfold Proofs.YtgkfknbhkonfdaaGreatDoor.lenV
  rw [h1, hv]
theorem findV_l (l : List ThM) (m : Msg) : findV (l.map ThM.z) m = (l.find? fun z => isZ m z.z).map ThM.z := by
  unfold findV
  rw [List.find?_map]
  rfl
/-- A list of one text, just laid. -/
theorem one_text {W : World} {X : Nat} {t : Text} (h : Blk W X 9 #[.string ⟨t.toArray⟩]) : RdS W [] 1 (.slice (some ⟨X, 0, none⟩) 1 1) 1 ([t].map encStr) :=
  ⟨rfl, .inr ⟨⟨X, 0, none⟩, 1, rfl, Nat.le_refl _, by unfold maxLen; omega, fun _ => ⟨rfl, h.lt, by simp, fun j hj => by
    have h0 : j = 0 := by omega
    subst h0
    exact h.cell 0⟩⟩⟩
theorem ViewAt.msg {w : World} {g : Nat} {q : VLies} {v : ViewP} (h : ViewAt w g q v) {n : Nat} (hn : v.l.length = n) {A : Option Addr} {c : Nat} (hv : q.vl = .slice A n c) (i : Nat) (hi : i < n) : ∃ (b off : Nat) (m : MsgM) (hi1 : i < q.ms.length) (hi2 : i < v.l.length), A = some ⟨b, off, none⟩ ∧ b < w.heap.size ∧ q.ms[i] = m ∧ v.l[i] = m.p ∧ w.cell? ⟨b, off + i * 3, none⟩ = some (.int .i64 m.p.uid) ∧ w.cell? ⟨b, off + i * 3 + 1, none⟩ = some (.int .i64 m.p.id) ∧ w.cell? ⟨b, off + i * 3 + 2, none⟩ = some (.pointer (some ⟨m.t, 0, none⟩)) := by
  have hl := h.len
  have hi1 : i < q.ms.length := by omega
  have hi2 : i < v.l.length := by omega
  obtain ⟨b, off, cap, _, hv2, _, _, hlt, hat⟩ := h.msgs.at_ (by omega)
  rw [hv, hn] at hv2
  injection hv2 with hv3 _ hv4
  have hc : ∀ j, j < 3 → w.cell? ⟨b, off + i * 3 + j, none⟩ = (encMsg q.ms[i])[j]? := fun j hj => by
    rw [Nat.add_assoc, (hat _ (by omega)).1, flatG_get encMsg_length q.ms i j hi1 hj]
  refine ⟨b, off, q.ms[i], hi1, hi2, hv3, hlt, rfl, ?_, hc 0 (by omega), hc 1 (by omega), hc 2 (by omega)⟩
  have h1 : (q.ms.map (·.p))[i]? = v.l[i]? := by rw [h.same]
  rw [List.getElem?_map, List.getElem?_eq_getElem hi1, List.getElem?_eq_getElem hi2] at h1
  exact (Option.some.inj h1).symm
theorem flatM_erase (l : List MsgM) (i : Nat) : flatG encMsg (l.eraseIdx i) = (flatG encMsg l).take (i * 3) ++ (flatG encMsg l).drop ((i + 1) * 3) := flatG_erase encMsg_length l i

end Go.Proofs.YtgkfknbhkonfdaaGreatDoor

namespace Go.Proofs.YtgkfknbhkonfdaaGreatDoor

theorem sayT_len (a : Int) (ha : a ≤ 9223372036854775807) (ws : Text) : (sayT a ws).length ≤ 26 + ws.length := by
  have := digL_le a ha
  unfold sayT
  simp only [List.length_append, List.length_cons, List.length_nil]
  omega
theorem goneT_len (is : Msg → Bool) : ∀ (l : List Msg) (i : Nat), i + l.length ≤ 1099511627776 → (goneT is i l).length ≤ 40 * l.length
  | [], _, _ => by simp [goneT]
  | m :: r, i, h => by
    rw [List.length_cons] at h ⊢
    unfold goneT
    split
    · have := goneT_len is r (i + 1) (by omega)
      omega
    · have h1 := goneT_len is r i (by omega)
      have h2 := sayT_len ((i : Int) + 1) (by omega) expungeT
      have h3 : expungeT.length = 7 := rfl
      rw [List.length_append]
      omega
/-- What an update asks of the emails that there are: few and short keywords, numbers within bounds. -/
structure ZOk (z : Int × MailP) : Prop where
  uid : z.1 ≤ 9223372036854775807
  mod : z.2.mod ≤ 9223372036854775807
  few : z.2.keys.length ≤ 100
  short : ∀ s ∈ z.2.keys, s.length ≤ 300
theorem flagsF_len {z : Int × MailP} (h : ZOk z) : (flagsF z.2.keys).length ≤ 30102 := by
  have h1 := J_length z.2.keys h.short z.2.keys.length (Nat.le_refl _)
  have h2 := h.few
  unfold flagsF
  simp only [List.length_append, List.length_cons, List.length_nil]
  omega
def fetchWs (uid : Int) (z : MailP) : List Text := [fetchW, digL uid, flagsW, flagsF z.keys, modW ++ digL z.mod ++ [41, 41]]
theorem fetch_words (uid : Int) (z : MailP) : Lib.join (fetchWs uid z) [32] = fetchW ++ [32] ++ digL uid ++ [32] ++ flagsW ++ [32] ++ flagsF z.keys ++ [32] ++ (modW ++ digL z.mod ++ [41, 41]) := by
  unfold fetchWs
  simp [Lib.join_cons, Lib.joinTail]
theorem fetch_join (i : Nat) (uid : Int) (z : MailP) : fetchT flagsF i uid z = sayT (i + 1) (Lib.join (fetchWs uid z) [32]) := by
  rw [fetch_words]
  rfl
theorem fetch_len {z : Int × MailP} (h : ZOk z) (uid : Int) (hu : uid ≤ 9223372036854775807) : (Lib.join (fetchWs uid z.2) [32]).length ≤ 30200 := by
  have h1 := flagsF_len h
  have h2 := digL_le uid hu
  have h3 := digL_le z.2.mod h.mod
  rw [fetch_words]
  have e1 : fetchW.length = 10 := rfl
  have e2 : flagsW.length = 5 := rfl
  have e3 : modW.length = 8 := rfl
  simp only [List.length_append, List.length_cons, List.length_nil, e1, e2, e3]
  omega
theorem turnT_len {zs : List (Int × MailP)} (hz : ∀ z ∈ zs, ZOk z) : ∀ (l : List Msg) (i : Nat), (∀ m ∈ l, m.uid ≤ 9223372036854775807) → i + l.length ≤ 1099511627776 → (turnT flagsF zs i l).length ≤ 30300 * l.length
  | [], _, _, _ => by simp [turnT]
  | m :: r, i, hm, h => by
    rw [List.length_cons] at h ⊢
    have ih := turnT_len hz r (i + 1) (fun y hy => hm y (List.mem_cons_of_mem _ hy)) (by omega)
    unfold turnT
    rw [List.length_append]
    refine Nat.le_trans (Nat.add_le_add (b := 30300) ?_ ih) (by omega)
    cases hf : findV zs m with
    | none => simp
    | some z =>
      have hz1 := hz z (List.mem_of_find?_eq_some hf)
      simp only
      split
      · rw [fetch_join]
        have h1 := fetch_len hz1 m.uid (hm m (List.mem_cons_self ..))
        have h2 := sayT_len ((i : Int) + 1) (by omega) (Lib.join (fetchWs m.uid z.2) [32])
        omega
      · simp

theorem turn_none {flags : List Text → Text} {zs : List (Int × MailP)} {m : Msg} (i : Nat) (h : findV zs m = none) : turnT flags zs i [m] = [] ∧ turnM zs m = m := by
  unfold turnT turnM
  rw [h]
  exact ⟨rfl, rfl⟩
theorem turn_same {flags : List Text → Text} {zs : List (Int × MailP)} {m : Msg} {z : Int × MailP} (i : Nat) (h : findV zs m = some z) (hn : ¬ m.told < z.2.mod) : turnT flags zs i [m] = [] ∧ turnM zs m = m := by
  unfold turnT turnM
  rw [h]
  simp only [if_neg hn]
  exact ⟨rfl, trivial⟩
theorem turn_new {flags : List Text → Text} {zs : List (Int × MailP)} {m : Msg} {z : Int × MailP} (i : Nat) (h : findV zs m = some z) (hn : m.told < z.2.mod) : turnT flags zs i [m] = fetchT flags i m.uid z.2 ∧ turnM zs m = { m with told := z.2.mod } := by
  unfold turnT turnM
  rw [h]
  simp only [if_pos hn]
  exact ⟨by simp [turnT], trivial⟩
theorem turned_step {zs : List (Int × MailP)} {l : List Msg} {k : Nat} (hk : k < l.length) : (l.take (k + 1)).map (turnM zs) ++ l.drop (k + 1) = ((l.take k).map (turnM zs) ++ l.drop k).set k (turnM zs l[k]) := by
  rw [List.take_succ_eq_append_getElem hk, List.map_append, List.append_assoc]
  have e : l.drop k = l[k] :: l.drop (k + 1) := List.drop_eq_getElem_cons hk
  have hl : ((l.take k).map (turnM zs)).length = k := by rw [List.length_map, List.length_take]; omega
  rw [List.set_append_right _ _ (by omega), hl, Nat.sub_self, e]
  rfl
theorem turned_get {zs : List (Int × MailP)} {l : List Msg} {k : Nat} (hk : k < l.length) (hk2 : k < ((l.take k).map (turnM zs) ++ l.drop k).length) : ((l.take k).map (turnM zs) ++ l.drop k)[k] = l[k] := by
  have hl : ((l.take k).map (turnM zs)).length = k := by rw [List.length_map, List.length_take]; omega
  rw [List.getElem_append_right (by omega), List.getElem_drop]
  congr 1
  omega
theorem turned_len {zs : List (Int × MailP)} {l : List Msg} {k : Nat} : ((l.take k).map (turnM zs) ++ l.drop k).length = l.length := by
  rw [List.length_append, List.length_map, List.length_take, List.length_drop]
  omega
theorem turned_still {zs : List (Int × MailP)} {l : List Msg} {k : Nat} (hk : k < l.length) (h : turnM zs l[k] = l[k]) : (l.take (k + 1)).map (turnM zs) ++ l.drop (k + 1) = (l.take k).map (turnM zs) ++ l.drop k := by
  have hk2 : k < ((l.take k).map (turnM zs) ++ l.drop k).length := by rw [turned_len]; exact hk
  rw [turned_step hk, h]
  have h1 := turned_get (zs := zs) hk hk2
  rw [← h1, List.set_getElem_self]
theorem turned_text {flags : List Text → Text} {zs : List (Int × MailP)} {l : List Msg} {k : Nat} (hk : k < l.length) : turnT flags zs 0 (l.take (k + 1)) = turnT flags zs 0 (l.take k) ++ turnT flags zs k [l[k]] := by
  rw [List.take_succ_eq_append_getElem hk, turn_snoc, List.length_take, show 0 + min k l.length = k by omega]
theorem five_texts {W : World} {X : Nat} {t0 t1 t2 t3 t4 : Text} (h : Blk W X 9 #[.string ⟨t0.toArray⟩, .string ⟨t1.toArray⟩, .string ⟨t2.toArray⟩, .string ⟨t3.toArray⟩, .string ⟨t4.toArray⟩]) : RdS W [] 1 (.slice (some ⟨X, 0, none⟩) 5 5) 5 ([t0, t1, t2, t3, t4].map encStr) :=
  ⟨rfl, .inr ⟨⟨X, 0, none⟩, 5, rfl, Nat.le_refl _, by unfold maxLen; omega, fun _ => ⟨rfl, h.lt, by simp, fun j hj => by
    show W.cell? ⟨X, 0 + j, none⟩ = _
    rw [Nat.zero_add, h.cell j]
    match j, hj with
    | 0, _ => rfl
    | 1, _ => rfl
    | 2, _ => rfl
    | 3, _ => rfl
    | 4, _ => rfl⟩⟩⟩

end Go.Proofs.YtgkfknbhkonfdaaGreatDoor

namespace Go.Proofs.YtgkfknbhkonfdaaGreatDoor
open Go.Shelf Go.RowKit Go.Lib
attribute [local go_sem ↓] Go.wp_at_zero Go.wp_at_succ

theorem Try.infoIntV : (Tryz.prog.info? 3).map (fun i => (i.zero, i.size, i.bytes)) = some (some (.int .i64 0), 1, 8) := by kernel_rfl
structure IdsR (w wr : World) (f : Msg → Int) (l : List Msg) (k : Nat) (o : Value) : Prop where
  below : Below w.heap.size w wr
  out : ∃ h : Option Nat, Sl wr 3 1 o h k (((l.take k).map f).map encI) ∧ ∀ b, h = some b → w.heap.size ≤ b

set_option maxRecDepth 100000 in
set_option maxHeartbeats 2000000 in
theorem uids_any (w : World) (gv : Nat) (qv : VLies) (v : ViewP) (h : ViewAt w gv qv v) (n : Nat) (hln : v.l.length = n) (hn : n ≤ 1099511627776) :
    Calls Tryz.prog 14 #[.pointer (some ⟨gv, 0, none⟩)] w fun e w' => ∃ (A : Option Addr) (c : Nat) (hh : Option Nat), e = .returned (.slice A n c) ∧ Sl w' 3 1 (.slice A n c) hh n ((v.l.map (·.uid)).map encI) ∧ (∀ b, hh = some b → w.heap.size ≤ b) ∧ Below w.heap.size w w' := by
  obtain ⟨i0, hi, hz0, hz1, hz2⟩ := info_parts Try.infoIntV
  obtain ⟨Am, cm, hvl, _, _⟩ := h.msgs.form
  rw [hln] at hvl
  have c1 : w.cell? ⟨gv, 1, none⟩ = some (.slice Am n cm) := by
    rw [h.blk.cell 1, ← hvl]
    rfl
  have hR0 : Hid (IdsR w w (·.uid) v.l 0 (.slice none 0 0)) := Lib.hid ⟨Below.refl _ _, none, by simpa using Sl.nil w 3 1, fun b hb => by cases hb⟩
  have H := Lib.hid h
  have HVL := Lib.hid hvl
  have HLN := Lib.hid hln
  clear h hvl hln
  go_enter Tryz.func14, Tryz.ntmps14
  go_wp2
  go_loopw [3, 13] (fun o i wr => ∃ k : Nat, k ≤ n ∧ i = .int .i64 k ∧ Hid (IdsR w wr (·.uid) v.l k o)) (fun _ i _ => n - (intOf i).toNat)
  case atStart => exact ⟨0, Nat.zero_le _, rfl, hR0⟩
  case round =>
    clear hR0 c1
    obtain ⟨k, hk, rfl, HU⟩ := hrel
    by_cases hlt : k < n
    · have hltz : (k : Int) < (n : Int) := by omega
      have hk0 : (0 : Int) ≤ (k : Int) := by omega
      have hkw : IntKind.i64.wrap ((k : Int) + 1) = (k : Int) + 1 := IntWalk.i64_in _ (by omega)
      have hv := H.out.later HU.out.below
      obtain ⟨bm, om, mm, hi1, hi2, hAm, hbm, hmm, hcm, d0, d1, d2⟩ := hv.msg HLN.out HVL.out k hlt
      subst hAm
      have hsucc : ((v.l.take (k + 1)).map (·.uid)).map encI = ((v.l.take k).map (·.uid)).map encI ++ [encI mm.p.uid] := by
        rw [List.take_succ_eq_append_getElem hi2, List.map_append, List.map_append, hcm]
        rfl
      obtain ⟨⟨mu, mi, mt⟩, tt⟩ := mm
      obtain ⟨hb0, h0, hs0, hf0⟩ := HU.out
      obtain ⟨A0, c0, rfl, _, _⟩ := hs0.form
      have HS0 := Lib.hid (hs0.alloc (.cells #[.int .i64 mu, .int .i64 mi, .pointer (some ⟨tt, 0, none⟩)] 96))
      have HB0 := Lib.hid (below_then hb0 (below_alloc1 wr (.cells #[.int .i64 mu, .int .i64 mi, .pointer (some ⟨tt, 0, none⟩)] 96)))
      have HF0 := Lib.hid hf0
      have HSUCC := Lib.hid hsucc
      clear hv hmm hcm hsucc hb0 hs0 hf0 hi1 hi2
      go_wp2_with (first
        | (at_builtin; refine wpList_append_slX rfl _ _ 35 rfl Tryz.underlying35 hi hz0 hz1 hz2 rfl (by decide) HS0.out rfl (wr.heap.size + 1) (by simp) 1 1 rfl rfl ?_ ?_ ?_ ?_)
        | fail)
      · simp [Value.oneCell']
      · unfold maxLen
        omega
      · omega
      · intro v5 h5 w5 hs5 hc5 ho5
        have HN : Hid (IdsR w w5 (·.uid) v.l (k + 1) v5) := Lib.hid (by
          have hz := HB0.out.size
          refine ⟨HB0.out.trans (hc5.below hz fun i hi => HF0.out i (by simpa using hi)), h5, by rw [HSUCC.out]; simpa [encI] using hs5, fun b hb => ?_⟩
          rcases ho5 with h3 | ⟨g, h3, h4⟩
          · exact HF0.out b (h3 ▸ hb)
          · rw [h3] at hb
            injection hb with hb
            rw [World.size_alloc] at hz
            omega)
        clear hs5 hc5 ho5
        go_wp2_with fail
        refine ⟨?_, by simp [intOf]; omega⟩
        first | exact ⟨k + 1, by omega, by go_num, HN⟩ | ((repeat apply Exists.intro); exact ⟨⟨k + 1, by omega, by go_num, HN⟩, rfl⟩)
    · have hltz : ¬ (k : Int) < (n : Int) := by omega
      have hkn : k = n := by omega
      subst hkn
      obtain ⟨hb0, h0, hs0, hf0⟩ := HU.out
      rw [List.take_of_length_le (by rw [HLN.out]; exact Nat.le_refl _)] at hs0
      obtain ⟨A0, c0, rfl, _, _⟩ := hs0.form
      have HS0 := Lib.hid hs0
      have HF0 := Lib.hid hf0
      have HB0 := Lib.hid hb0
      clear hs0 hf0 hb0 HU
      go_wp2_with fail
      go_ret
      first | exact ⟨_, _, _, rfl, HS0.out, HF0.out, HB0.out⟩ | exact ⟨_, _, rfl, _, (by simpa using HS0.out), HF0.out, HB0.out⟩

set_option maxRecDepth 100000 in
set_option maxHeartbeats 2000000 in
theorem ids_any (w : World) (gv : Nat) (qv : VLies) (v : ViewP) (h : ViewAt w gv qv v) (n : Nat) (hln : v.l.length = n) (hn : n ≤ 1099511627776) :
    Calls Tryz.prog 26 #[.pointer (some ⟨gv, 0, none⟩)] w fun e w' => ∃ (A : Option Addr) (c : Nat) (hh : Option Nat), e = .returned (.slice A n c) ∧ Sl w' 3 1 (.slice A n c) hh n ((v.l.map (·.id)).map encI) ∧ (∀ b, hh = some b → w.heap.size ≤ b) ∧ Below w.heap.size w w' := by
  obtain ⟨i0, hi, hz0, hz1, hz2⟩ := info_parts Try.infoIntV
  obtain ⟨Am, cm, hvl, _, _⟩ := h.msgs.form
  rw [hln] at hvl
  have c1 : w.cell? ⟨gv, 1, none⟩ = some (.slice Am n cm) := by
    rw [h.blk.cell 1, ← hvl]
    rfl
  have hR0 : Hid (IdsR w w (·.id) v.l 0 (.slice none 0 0)) := Lib.hid ⟨Below.refl _ _, none, by simpa using Sl.nil w 3 1, fun b hb => by cases hb⟩
  have H := Lib.hid h
  have HVL := Lib.hid hvl
  have HLN := Lib.hid hln
  clear h hvl hln
  go_enter Tryz.func26, Tryz.ntmps26
  go_wp2
  go_loopw [3, 13] (fun o i wr => ∃ k : Nat, k ≤ n ∧ i = .int .i64 k ∧ Hid (IdsR w wr (·.id) v.l k o)) (fun _ i _ => n - (intOf i).toNat)
  case atStart => exact ⟨0, Nat.zero_le _, rfl, hR0⟩
  case round =>
    clear hR0 c1
    obtain ⟨k, hk, rfl, HU⟩ := hrel
    by_cases hlt : k < n
    · have hltz : (k : Int) < (n : Int) := by omega
      have hk0 : (0 : Int) ≤ (k : Int) := by omega
      have hkw : IntKind.i64.wrap ((k : Int) + 1) = (k : Int) + 1 := IntWalk.i64_in _ (by omega)
      have hv := H.out.later HU.out.below
      obtain ⟨bm, om, mm, hi1, hi2, hAm, hbm, hmm, hcm, d0, d1, d2⟩ := hv.msg HLN.out HVL.out k hlt
      subst hAm
      have hsucc : ((v.l.take (k + 1)).map (·.id)).map encI = ((v.l.take k).map (·.id)).map encI ++ [encI mm.p.id] := by
        rw [List.take_succ_eq_append_getElem hi2, List.map_append, List.map_append, hcm]
        rfl
      obtain ⟨⟨mu, mi, mt⟩, tt⟩ := mm
      obtain ⟨hb0, h0, hs0, hf0⟩ := HU.out
      obtain ⟨A0, c0, rfl, _, _⟩ := hs0.form
      have HS0 := Lib.hid (hs0.alloc (.cells #[.int .i64 mu, .int .i64 mi, .pointer (some ⟨tt, 0, none⟩)] 96))
      have HB0 := Lib.hid (below_then hb0 (below_alloc1 wr (.cells #[.int .i64 mu, .int .i64 mi, .pointer (some ⟨tt, 0, none⟩)] 96)))
      have HF0 := Lib.hid hf0
      have HSUCC := Lib.hid hsucc
      clear hv hmm hcm hsucc hb0 hs0 hf0 hi1 hi2
      go_wp2_with (first
        | (at_builtin; refine wpList_append_slX rfl _ _ 35 rfl Tryz.underlying35 hi hz0 hz1 hz2 rfl (by decide) HS0.out rfl (wr.heap.size + 1) (by simp) 1 1 rfl rfl ?_ ?_ ?_ ?_)
        | fail)
      · simp [Value.oneCell']
      · unfold maxLen
        omega
      · omega
      · intro v5 h5 w5 hs5 hc5 ho5
        have HN : Hid (IdsR w w5 (·.id) v.l (k + 1) v5) := Lib.hid (by
          have hz := HB0.out.size
          refine ⟨HB0.out.trans (hc5.below hz fun i hi => HF0.out i (by simpa using hi)), h5, by rw [HSUCC.out]; simpa [encI] using hs5, fun b hb => ?_⟩
          rcases ho5 with h3 | ⟨g, h3, h4⟩
          · exact HF0.out b (h3 ▸ hb)
          · rw [h3] at hb
            injection hb with hb
            rw [World.size_alloc] at hz
            omega)
        clear hs5 hc5 ho5
        go_wp2_with fail
        refine ⟨?_, by simp [intOf]; omega⟩
        first | exact ⟨k + 1, by omega, by go_num, HN⟩ | ((repeat apply Exists.intro); exact ⟨⟨k + 1, by omega, by go_num, HN⟩, rfl⟩)
    · have hltz : ¬ (k : Int) < (n : Int) := by omega
      have hkn : k = n := by omega
      subst hkn
      obtain ⟨hb0, h0, hs0, hf0⟩ := HU.out
      rw [List.take_of_length_le (by rw [HLN.out]; exact Nat.le_refl _)] at hs0
      obtain ⟨A0, c0, rfl, _, _⟩ := hs0.form
      have HS0 := Lib.hid hs0
      have HF0 := Lib.hid hf0
      have HB0 := Lib.hid hb0
      clear hs0 hf0 hb0 HU
      go_wp2_with fail
      go_ret
      first | exact ⟨_, _, _, rfl, HS0.out, HF0.out, HB0.out⟩ | exact ⟨_, _, rfl, _, (by simpa using HS0.out), HF0.out, HB0.out⟩

set_option maxRecDepth 100000 in
theorem uids_nil (w : World) :
    Calls Tryz.prog 14 #[.pointer none] w fun e w' => e = .returned (.slice none 0 0) ∧ w = w' := by
  go_enter Tryz.func14, Tryz.ntmps14
  go_wp2
  go_ret
  exact ⟨rfl, rfl⟩
set_option maxRecDepth 100000 in
theorem ids_nil (w : World) :
    Calls Tryz.prog 26 #[.pointer none] w fun e w' => e = .returned (.slice none 0 0) ∧ w = w' := by
  go_enter Tryz.func26, Tryz.ntmps26
  go_wp2
  go_ret
  exact ⟨rfl, rfl⟩
set_option maxRecDepth 100000 in
theorem box_nil (w : World) :
    Calls Tryz.prog 27 #[.pointer none] w fun e w' => e = .returned (.int .i64 0) ∧ w = w' := by
  go_enter Tryz.func27, Tryz.ntmps27
  go_wp2
  go_ret
  exact ⟨rfl, rfl⟩
set_option maxRecDepth 100000 in
theorem told_nil (w : World) (g : Value) (n : Int) :
    Calls Tryz.prog 24 #[.pointer none, g, .int .i64 n] w fun e w' => e = .returned (.tuple #[]) ∧ w = w' := by
  go_enter Tryz.func24, Tryz.ntmps24
  go_wp2
  refine bodyPost_ret (results_none rfl _ _ _) rfl ?_
  exact ⟨rfl, rfl⟩
set_option maxRecDepth 100000 in
theorem update_nil (w : World) (g : Value) (all : Bool) :
    Calls Tryz.prog 16 #[.pointer none, g, .bool all] w fun e w' => e = .returned (.string ⟨#[]⟩) ∧ w = w' := by
  go_enter Tryz.func16, Tryz.ntmps16
  go_wp2
  go_ret
  exact ⟨rfl, rfl⟩
theorem boxV_any (w : World) (gv : Nat) (qv : VLies) (v : ViewP) (h : ViewAt w gv qv v) :
    Calls Tryz.prog 27 #[.pointer (some ⟨gv, 0, none⟩)] w fun e w' => e = .returned (.int .i64 v.box) ∧ w = w' := by
  have c0 : w.cell? ⟨gv, 0, none⟩ = some (.int .i64 v.box) := h.blk.cell 0
  go_enter Tryz.func27, Tryz.ntmps27
  go_wp2
  go_ret
  exact ⟨rfl, rfl⟩
theorem newView_nil (w : World) (n : Int) :
    Calls Tryz.prog 12 #[.pointer none, .int .i64 n] w fun e w' => e = .returned (.tuple #[.pointer none, .int .i64 7]) ∧ Below w.heap.size w w' := by
  have hb := below_alloc1 w (.cells #[.int .i64 n] 3)
  have HB := Lib.hid hb
  clear hb
  go_enter Tryz.func12, Tryz.ntmps12
  go_wp2
  go_ret2
  exact ⟨rfl, HB.out⟩

end Go.Proofs.YtgkfknbhkonfdaaGreatDoor

namespace Go.Proofs.YtgkfknbhkonfdaaGreatDoor
open Go.Shelf Go.RowKit Go.Lib
attribute [local go_sem ↓] Go.wp_at_zero Go.wp_at_succ

theorem modify_set {α : Type} (l : List α) (i : Nat) (f : α → α) (h : i < l.length) : l.modify i f = l.set i (f l[i]) := by
  apply List.ext_getElem
  · simp
  · intro j h1 h2
    rw [List.getElem_modify, List.getElem_set]
    split
    · rename_i e
      subst e
      rfl
    · rfl
theorem tell_step {zs : List (Int × MailP)} {m : Msg} {k : Nat} {z : Int × MailP} (h : zs[k]? = some z) : tellM (zs.take (k + 1)) m = if isZ m z then { tellM (zs.take k) m with told := z.2.mod } else tellM (zs.take k) m := by
  obtain ⟨hk, he⟩ := List.getElem?_eq_some_iff.1 h
  unfold tellM
  rw [List.take_succ_eq_append_getElem hk, List.foldl_append, he]
  rfl
theorem tell_id (m : Msg) : ∀ (ys : List (Int × MailP)) (t : Msg), (ys.foldl (fun (s : Msg) z => if isZ m z then { s with told := z.2.mod } else s) t).uid = t.uid ∧ (ys.foldl (fun (s : Msg) z => if isZ m z then { s with told := z.2.mod } else s) t).id = t.id
  | [], _ => ⟨rfl, rfl⟩
  | y :: r, t => by
    have h := tell_id m r (if isZ m y then { t with told := y.2.mod } else t)
    rw [List.foldl_cons]
    refine ⟨h.1.trans ?_, h.2.trans ?_⟩ <;> (split <;> rfl)
structure ToR (w wr : World) (gv : Nat) (qv q : VLies) (v : ViewP) (i : Nat) (m : Msg) (tt M0 : Nat) (nv : Value) (l : List ThM) : Prop where
  turned : VTurned w wr gv qv ⟨v.box, v.l.set i m, v.had⟩ q
  there : ThereAt wr nv l
  copy : Blk wr M0 96 #[.int .i64 m.uid, .int .i64 m.id, .pointer (some ⟨tt, 0, none⟩)]
  ptr : ∃ hi : i < q.ms.length, q.ms[i].t = tt
  new : w.heap.size ≤ M0
theorem ToR.later {w wr W : World} {gv : Nat} {qv q : VLies} {v : ViewP} {i : Nat} {m : Msg} {tt M0 : Nat} {nv : Value} {l : List ThM} (h : ToR w wr gv qv q v i m tt M0 nv l) (hb : Below wr.heap.size wr W) : ToR w W gv qv q v i m tt M0 nv l :=
  ⟨h.turned.then hb, h.there.later hb, h.copy.below hb h.copy.lt, h.ptr, h.new⟩
theorem ToR.set {w wr : World} {gv : Nat} {qv q : VLies} {v : ViewP} {i : Nat} {m : Msg} {tt M0 : Nat} {nv : Value} {l : List ThM} (h : ToR w wr gv qv q v i m tt M0 nv l) (hi : i < v.l.length) (u : Int) : ∃ q', ToR w (wr.setCell ⟨tt, 0, none⟩ (.int .i64 u)) gv qv q' v i { m with told := u } tt M0 nv l := by
  obtain ⟨hi1, ht⟩ := h.ptr
  have hi2 : i < (⟨v.box, v.l.set i m, v.had⟩ : ViewP).l.length := by show i < (v.l.set i m).length; rw [List.length_set]; exact hi
  have h1 := h.turned.at_.setTold i hi1 hi2 u
  rw [ht] at h1
  have e : (v.l.set i m).set i { (v.l.set i m)[i]'hi2 with told := u } = v.l.set i { m with told := u } := by
    rw [List.getElem_set_self, List.set_set]
  have h2 := h.turned.trans h1
  have hk : TKeep (fun t => ¬ VTy t) wr (wr.setCell ⟨tt, 0, none⟩ (.int .i64 u)) := TKeep.of_chg h1.chg (fun i hi => by
    obtain ⟨t, cs, hB, hT⟩ := h.turned.at_.typed hi
    exact ⟨t, cs, hB, fun h => h hT⟩)
  have hB := h.turned.at_.told q.ms[i] (List.getElem_mem hi1)
  rw [ht] at hB
  refine ⟨⟨q.hl, q.vl, q.ms.set i (q.ms[i].set u)⟩, ?_, h.there.tkeep hk (by unfold VTy; decide) (by unfold VTy; decide) (by unfold VTy; decide), h.copy.far (p := ⟨tt, 0, none⟩) (h.copy.ne hB (by decide)) _, ⟨by simpa using hi1, ?_⟩, h.new⟩
  · have h3 : VTurned w (wr.setCell ⟨tt, 0, none⟩ (.int .i64 u)) gv qv ⟨v.box, (v.l.set i m).set i { (v.l.set i m)[i]'hi2 with told := u }, v.had⟩ ⟨q.hl, q.vl, q.ms.set i (q.ms[i].set u)⟩ := h2
    rw [e] at h3
    exact h3
  · simp [MsgM.set, ht]

set_option maxRecDepth 100000 in
set_option maxHeartbeats 4000000 in
theorem told_any (w : World) (g : Nat) (q : Lies) (x : Acc) (gv : Nat) (qv : VLies) (v : ViewP) (zs : List (Int × MailP)) (hx : StoreAt w g q x) (hsm : SmallM x) (hv : ViewAt w gv qv v) (hvl : v.l.length ≤ 1099511627776) (hp : zs.Perm (thereL x.mails v.box)) (hr : (zs.map (·.1)).Pairwise (· < ·)) (hz : zs.length ≤ 1099511627776) (i : Nat) (hi : i < v.l.length) :
    Calls Tryz.prog 24 #[.pointer (some ⟨gv, 0, none⟩), .pointer (some ⟨g, 0, none⟩), .int .i64 ((i : Int) + 1)] w fun e w' => e = .returned (.tuple #[]) ∧ ∃ qv', VTurned w w' gv qv (toldV zs v ((i : Int) + 1)) qv' := by
  have hdef : toldV zs v ((i : Int) + 1) = ⟨v.box, v.l.set i (tellM zs v.l[i]), v.had⟩ := by
    unfold toldV
    rw [if_neg (by omega), show ((i : Int) + 1 - 1).toNat = i by omega, modify_set _ _ _ hi]
  rw [hdef]
  obtain ⟨nc, hnc⟩ : ∃ nc, v.l.length = nc := ⟨_, rfl⟩
  obtain ⟨Am, cm, hvl2, _, _⟩ := hv.msgs.form
  rw [hnc] at hvl2
  obtain ⟨bm, om, mm, hi1, hi2, hAm, hbm, hmm, hcm, d0, d1, d2⟩ := hv.msg hnc hvl2 i (by omega)
  subst hAm
  rw [hcm]
  have c1 : w.cell? ⟨gv, 1, none⟩ = some (.slice (some ⟨bm, om, none⟩) nc cm) := by
    rw [hv.blk.cell 1, ← hvl2]
    rfl
  obtain ⟨⟨mu, mi, mt⟩, tt⟩ := mm
  have hwi := fun W (hb : Below w.heap.size w W) => withinV_any W g q x (hx.later hb) hsm v.box zs hp hr hz
  have hb1 := below_alloc1 w (.cells #[.int .i64 mu, .int .i64 mi, .pointer (some ⟨tt, 0, none⟩)] 96)
  have y0 : (w.alloc (.cells #[.int .i64 mu, .int .i64 mi, .pointer (some ⟨tt, 0, none⟩)] 96)).cell? ⟨gv, 0, none⟩ = some (.int .i64 v.box) := (hv.later hb1).blk.cell 0
  have hset : v.l.set i (⟨mu, mi, mt⟩ : Msg) = v.l := by
    have h1 : v.l[i] = (⟨mu, mi, mt⟩ : Msg) := hcm
    rw [← h1, List.set_getElem_self]
  have hR0 : ∀ W l nv, Below (w.alloc (.cells #[.int .i64 mu, .int .i64 mi, .pointer (some ⟨tt, 0, none⟩)] 96)).heap.size (w.alloc (.cells #[.int .i64 mu, .int .i64 mi, .pointer (some ⟨tt, 0, none⟩)] 96)) W → ThereAt W nv l → ToR w W gv qv qv v i (tellM (zs.take 0) ⟨mu, mi, mt⟩) tt w.heap.size nv l := fun W l nv hb ht => by
    refine ⟨?_, ht, (Blk.new w _ _).below hb (by simp), ⟨hi1, by rw [hmm]⟩, Nat.le_refl _⟩
    show VTurned w W gv qv ⟨v.box, v.l.set i (⟨mu, mi, mt⟩ : Msg), v.had⟩ qv
    rw [hset]
    exact (VTurned.refl hv).then (below_then hb1 hb)
  have q1 : (0 : Int) ≤ (i : Int) + 1 - 1 := by omega
  have q2 : ¬ ((i : Int) + 1 < 1) := by omega
  have q3 : ¬ ((nc : Int) < (i : Int) + 1) := by omega
  have q4 : ((i : Int) + 1 - 1).toNat = i := by omega
  have q5 : IntKind.i64.wrap ((i : Int) + 1 - 1) = (i : Int) := by rw [IntWalk.i64_in _ (by omega)]; omega
  have q6 : i < nc := by omega
  have q7 : i ≤ 1099511627776 := by omega
  have q8 : (i : Int) ≤ 1099511627776 := by omega
  have q9 : (0 : Int) ≤ (i : Int) := by omega
  have HWI := Lib.hid hwi
  have HB1 := Lib.hid hb1
  have HR0 := Lib.hid hR0
  have HI := Lib.hid hi
  have HZ := Lib.hid hz
  clear hwi hb1 hR0 hset hmm hcm hvl2 hnc hdef hx hv hp hr hi hi1 hi2 hz
  go_enter Tryz.func24, Tryz.ntmps24
  go_wp2_with (first
    | (go_at_call 41; refine (HWI.out _ HB1.out).mono ?_; rintro e w2 ⟨nv, l, rfl, k1, k2, k3⟩; obtain ⟨A9, c9, rfl, _, _⟩ := k2.rd.form; have K1 := Lib.hid k1; have HT0 := Lib.hid (HR0.out _ _ _ k3 k2); clear k1 k2 k3)
    | fail)
  obtain ⟨M0, hM0⟩ : ∃ M0, w.heap.size = M0 := ⟨_, rfl⟩
  rw [hM0] at HT0
  try rw [hM0]
  obtain ⟨nl, hnl⟩ : ∃ nl, l.length = nl := ⟨_, rfl⟩
  have HNL := Lib.hid hnl
  rw [hnl] at HT0
  try rw [hnl]
  have hnlb : nl ≤ 1099511627776 := by rw [← hnl, ← List.length_map (f := ThM.z), K1.out]; exact HZ.out
  have HM0 := Lib.hid hM0
  clear hM0 hnl c1 y0 d0 d1 d2
  go_loopw [39] (fun j wr => ∃ (k : Nat) (q1 : VLies), k ≤ nl ∧ j = .int .i64 k ∧ Hid (ToR w wr gv qv q1 v i (tellM (zs.take k) ⟨mu, mi, mt⟩) tt M0 (.slice A9 nl c9) l)) (fun j _ => nl - (intOf j).toNat)
  case atStart => exact ⟨0, qv, Nat.zero_le _, rfl, HT0⟩
  case round =>
    clear HT0
    obtain ⟨k, q1, hk, rfl, HU⟩ := hrel
    by_cases hlt : k < nl
    · have hltz : (k : Int) < (nl : Int) := by omega
      have hk0 : (0 : Int) ≤ (k : Int) := by omega
      have hkw : IntKind.i64.wrap ((k : Int) + 1) = (k : Int) + 1 := IntWalk.i64_in _ (by omega)
      have hkl : k < l.length := by rw [HNL.out]; exact hlt
      obtain ⟨z, hzz⟩ : ∃ z, l[k] = z := ⟨_, rfl⟩
      have hzk : zs[k]? = some z.z := by
        rw [← K1.out, List.getElem?_map, List.getElem?_eq_getElem hkl, hzz]
        rfl
      obtain ⟨b, off, cap, hv, _, _, hbl, _, hat⟩ := HU.out.there.rd.at_ (by omega)
      rw [HNL.out] at hv hat
      injection hv with hv3 _ hv4
      subst hv3 hv4
      have hat9 : ∀ j, j < 9 → wr.cell? ⟨b, off + k * 9 + j, none⟩ = (encTh z)[j]? := fun j hj => by
        rw [Nat.add_assoc, hat _ (by omega), flatG_get encTh_length l k j hkl hj, hzz]
      have hstep := tell_step (m := ⟨mu, mi, mt⟩) hzk
      obtain ⟨u1, u2⟩ := tell_id ⟨mu, mi, mt⟩ (zs.take k) ⟨mu, mi, mt⟩
      obtain ⟨mk, hmk⟩ : ∃ mk, tellM (zs.take k) ⟨mu, mi, mt⟩ = mk := ⟨_, rfl⟩
      have v1 : mk.uid = mu := by rw [← hmk]; exact u1
      have v2 : mk.id = mi := by rw [← hmk]; exact u2
      rw [hmk] at HU hstep
      have hcopy := HU.out.copy
      rw [v1, v2] at hcopy
      obtain ⟨zu, ⟨zi, zth, ztx, zat, zk, zme, zmo, zbo⟩, za, zc, zb, zd⟩ := z
      simp only [encTh, encM, ThM.m, strV] at hat9
      obtain ⟨nk, hnk⟩ : ∃ nk, zk.length = nk := ⟨_, rfl⟩
      obtain ⟨nm, hnm⟩ : ∃ nm, zme.length = nm := ⟨_, rfl⟩
      rw [hnk, hnm] at hat9
      have d0 : wr.cell? ⟨b, off + k * 9, none⟩ = some (.int .i64 zu) := hat9 0 (by omega)
      have d1 : wr.cell? ⟨b, off + k * 9 + 1, none⟩ = some (.int .i64 zi) := hat9 1 (by omega)
      have d2 : wr.cell? ⟨b, off + k * 9 + 2, none⟩ = some (.int .i64 zth) := hat9 2 (by omega)
      have d3 : wr.cell? ⟨b, off + k * 9 + 3, none⟩ = some (.string ⟨ztx.toArray⟩) := hat9 3 (by omega)
      have d4 : wr.cell? ⟨b, off + k * 9 + 4, none⟩ = some (.int .i64 zat) := hat9 4 (by omega)
      have d5 : wr.cell? ⟨b, off + k * 9 + 5, none⟩ = some (.slice za nk zc) := hat9 5 (by omega)
      have d6 : wr.cell? ⟨b, off + k * 9 + 6, none⟩ = some (.slice zb nm zd) := hat9 6 (by omega)
      have d7 : wr.cell? ⟨b, off + k * 9 + 7, none⟩ = some (.int .i64 zmo) := hat9 7 (by omega)
      have d8 : wr.cell? ⟨b, off + k * 9 + 8, none⟩ = some (.int .i64 zbo) := hat9 8 (by omega)
      have hisz : isZ ⟨mu, mi, mt⟩ (ThM.z ⟨zu, ⟨zi, zth, ztx, zat, zk, zme, zmo, zbo⟩, za, zc, zb, zd⟩) = (decide (zu = mu) && decide (zi = mi)) := rfl
      rw [hisz] at hstep
      have HC := Lib.hid (hcopy.alloc (.cells #[.int .i64 zu, .int .i64 zi, .int .i64 zth, .string ⟨ztx.toArray⟩, .int .i64 zat, .slice za nk zc, .slice zb nm zd, .int .i64 zmo, .int .i64 zbo] 92))
      have m0 : (wr.alloc (.cells #[.int .i64 zu, .int .i64 zi, .int .i64 zth, .string ⟨ztx.toArray⟩, .int .i64 zat, .slice za nk zc, .slice zb nm zd, .int .i64 zmo, .int .i64 zbo] 92)).cell? ⟨M0, 0, none⟩ = some (.int .i64 mu) := HC.out.cell 0
      have m1 : (wr.alloc (.cells #[.int .i64 zu, .int .i64 zi, .int .i64 zth, .string ⟨ztx.toArray⟩, .int .i64 zat, .slice za nk zc, .slice zb nm zd, .int .i64 zmo, .int .i64 zbo] 92)).cell? ⟨M0, 1, none⟩ = some (.int .i64 mi) := HC.out.cell 1
      have m2 : (wr.alloc (.cells #[.int .i64 zu, .int .i64 zi, .int .i64 zth, .string ⟨ztx.toArray⟩, .int .i64 zat, .slice za nk zc, .slice zb nm zd, .int .i64 zmo, .int .i64 zbo] 92)).cell? ⟨M0, 2, none⟩ = some (.pointer (some ⟨tt, 0, none⟩)) := HC.out.cell 2
      have hlat := HU.out.later (below_alloc1 wr (.cells #[.int .i64 zu, .int .i64 zi, .int .i64 zth, .string ⟨ztx.toArray⟩, .int .i64 zat, .slice za nk zc, .slice zb nm zd, .int .i64 zmo, .int .i64 zbo] 92))
      by_cases c1 : zu = mu
      · have e1 : (zu == mu) = true := by simpa using c1
        by_cases c2 : zi = mi
        · have e2 : (zi == mi) = true := by simpa using c2
          have hst : Calls Tryz.prog 54 #[.pointer (some ⟨tt, 0, none⟩), .int .i64 zmo] (wr.alloc (.cells #[.int .i64 zu, .int .i64 zi, .int .i64 zth, .string ⟨ztx.toArray⟩, .int .i64 zat, .slice za nk zc, .slice zb nm zd, .int .i64 zmo, .int .i64 zbo] 92)) fun e w' => e = .returned (.tuple #[]) ∧ ∃ q4, Hid (ToR w w' gv qv q4 v i (tellM (zs.take (k + 1)) ⟨mu, mi, mt⟩) tt M0 (.slice (some ⟨b, off, none⟩) nl c9) l) := by
            obtain ⟨hi1, ht⟩ := hlat.ptr
            have hB := hlat.turned.at_.told _ (List.getElem_mem hi1)
            rw [ht] at hB
            refine (atomStore_any tt 0 _ zmo _ (hB.cell 0) (hB.frozen 0)).mono ?_
            rintro e w' ⟨rfl, hw⟩
            rw [hw]
            obtain ⟨q4, h4⟩ := hlat.set HI.out zmo
            refine ⟨rfl, q4, Lib.hid ?_⟩
            rw [hstep, decide_eq_true c1, decide_eq_true c2, Bool.and_self, if_pos rfl]
            exact h4
          have HST := Lib.hid hst
          clear hat hat9 hzz hnk hnm hstep hzk hcopy hisz hlat hmk v1 v2 u1 u2 c1 c2 hst
          go_wp2_with (first
            | (go_at_call 54; refine HST.out.mono ?_; rintro e w7 ⟨rfl, q4, HN⟩)
            | fail)
          refine ⟨?_, by simp [intOf]; omega⟩
          first | exact ⟨k + 1, q4, by omega, by go_num, HN⟩ | ((repeat apply Exists.intro); exact ⟨⟨k + 1, q4, by omega, by go_num, HN⟩, rfl⟩)
        · have e2 : (zi == mi) = false := by simpa using c2
          have HN : Hid (ToR w (wr.alloc (.cells #[.int .i64 zu, .int .i64 zi, .int .i64 zth, .string ⟨ztx.toArray⟩, .int .i64 zat, .slice za nk zc, .slice zb nm zd, .int .i64 zmo, .int .i64 zbo] 92)) gv qv q1 v i (tellM (zs.take (k + 1)) ⟨mu, mi, mt⟩) tt M0 (.slice (some ⟨b, off, none⟩) nl c9) l) := Lib.hid (by
            rw [hstep, decide_eq_false c2, Bool.and_false, if_neg (by decide)]
            exact hlat)
          clear hat hat9 hzz hnk hnm hstep hzk hcopy hisz hlat hmk v1 v2 u1 u2 c1 c2
          go_wp2_with fail
          refine ⟨?_, by simp [intOf]; omega⟩
          first | exact ⟨k + 1, q1, by omega, by go_num, HN⟩ | ((repeat apply Exists.intro); exact ⟨⟨k + 1, q1, by omega, by go_num, HN⟩, rfl⟩)
      · have e1 : (zu == mu) = false := by simpa using c1
        have HN : Hid (ToR w (wr.alloc (.cells #[.int .i64 zu, .int .i64 zi, .int .i64 zth, .string ⟨ztx.toArray⟩, .int .i64 zat, .slice za nk zc, .slice zb nm zd, .int .i64 zmo, .int .i64 zbo] 92)) gv qv q1 v i (tellM (zs.take (k + 1)) ⟨mu, mi, mt⟩) tt M0 (.slice (some ⟨b, off, none⟩) nl c9) l) := Lib.hid (by
          rw [hstep, decide_eq_false c1, Bool.false_and, if_neg (by decide)]
          exact hlat)
        clear hat hat9 hzz hnk hnm hstep hzk hcopy hisz hlat hmk v1 v2 u1 u2 c1
        go_wp2_with fail
        refine ⟨?_, by simp [intOf]; omega⟩
        first | exact ⟨k + 1, q1, by omega, by go_num, HN⟩ | ((repeat apply Exists.intro); exact ⟨⟨k + 1, q1, by omega, by go_num, HN⟩, rfl⟩)
    · have hltz : ¬ (k : Int) < (nl : Int) := by omega
      have hkn : k = nl := by omega
      subst hkn
      have HF : Hid (∃ q1, VTurned w wr gv qv ⟨v.box, v.l.set i (tellM zs ⟨mu, mi, mt⟩), v.had⟩ q1) := Lib.hid (by
        have h1 := HU.out.turned
        rw [List.take_of_length_le (by rw [← K1.out, List.length_map, HNL.out]; exact Nat.le_refl _)] at h1
        exact ⟨_, h1⟩)
      go_wp2_with fail
      first | go_end0 | refine bodyPost_ret (results_none rfl _ _ _) rfl ?_
      exact ⟨rfl, HF.out⟩

end Go.Proofs.YtgkfknbhkonfdaaGreatDoor
