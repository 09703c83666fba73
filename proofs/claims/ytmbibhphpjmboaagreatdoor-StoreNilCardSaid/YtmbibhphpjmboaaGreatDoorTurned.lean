/-
  The walk of the store's turned: mailboxes' clocks, and their entries.
-/
import Derived.Test.YtmbibhphpjmboaaGreatDoorSpent
namespace Go.Proofs.YtmbibhphpjmboaaGreatDoor
open Go.Shelf Go.RowKit Go.Lib
attribute [local go_sem ↓] Go.wp_at_zero Go.wp_at_succ

theorem setBox_ids (id : Int) (f : BoxP → BoxP) (hf : ∀ b, (f b).id = b.id) : ∀ l, ids (setBox id f l) = ids l
  | [] => rfl
  | b :: r => by
    unfold setBox
    split
    · simp [ids, hf]
    · have := setBox_ids id f hf r
      simp only [ids, List.map_cons] at this ⊢
      rw [this]
theorem turnBoxes_ids (mod : Int) : ∀ (is : List Int) (l : List BoxP), ids (turnBoxes mod is l) = ids l
  | [], _ => rfl
  | i :: r, l => by
    have h1 : turnBoxes mod (i :: r) l = turnBoxes mod r (setBox i (fun b => { b with mod := mod }) l) := rfl
    rw [h1, turnBoxes_ids mod r, setBox_ids]
    intro b
    rfl
theorem turnBoxes_length (mod : Int) (is : List Int) (l : List BoxP) : (turnBoxes mod is l).length = l.length := by
  have := congrArg List.length (turnBoxes_ids mod is l)
  simpa [ids] using this
theorem turnBoxes_snoc (mod : Int) (is : List Int) (i : Int) (l : List BoxP) : turnBoxes mod (is ++ [i]) l = setBox i (fun b => { b with mod := mod }) (turnBoxes mod is l) := by
  simp [turnBoxes]
theorem turnEnts_snoc (mod : Int) (is : List Int) (i : Int) : turnEnts mod (is ++ [i]) = turnEnts mod is ++ [⟨mod, 1, i, 2⟩] := by
  simp [turnEnts]
theorem turnEnts_length (mod : Int) (is : List Int) : (turnEnts mod is).length = is.length := by simp [turnEnts]

/-- 's[:n:n]' of a slice of n. -/
theorem Sl.tight {w : World} {e : TypeId} {size n cap : Nat} {A : Option Addr} {h : Option Nat} {xs : List Value} (hs : Sl w e size (.slice A n cap) h n xs) : Sl w e size (.slice A n n) h n xs := by
  refine ⟨hs.1, ?_⟩
  rcases hs.2 with ⟨h1, hv, h2⟩ | ⟨b', off', cap', cur, hh, hv, hB, hnc, hcm, hcs, ht⟩
  · injection hv with hv1 _ hv3
    subst h2 hv1
    exact .inl ⟨h1, rfl, rfl⟩
  · injection hv with hv1 _ hv3
    subst hv1 hv3
    have hmul : n * size ≤ cap * size := Nat.mul_le_mul_right _ hnc
    exact .inr ⟨b', off', n, cur, hh, rfl, hB, Nat.le_refl _, by omega, by omega, ht⟩

/-- Where only what is new has turned behind it. -/
theorem Turned.newer {w W W2 : World} {g : Nat} {q : Lies} {x x1 : Acc} {S : List Nat} (h : Turned w W g q x1 q) (hw : StoreAt w g q x) (hc : Chg S W W2) (hS : ∀ k ∈ S, w.heap.size ≤ k) : Turned w W2 g q x1 q := by
  have hco : Chg (q.own g) w W2 := h.chg.trans hc fun i hi => .inr (hS i hi)
  have hno : ∀ k ∈ q.own g, k ∉ S := fun k hk hm => by
    have h1 := hw.lt k hk
    have h2 := hS k hm
    omega
  exact ⟨⟨h.at_.blk.chg hc (hno g Lies.own_g), h.at_.log.chg hc (hno _ Lies.own_gl) (fun b hb => hno b (Lies.own_hl hb)), h.at_.boxes.chg hc (fun b hb => hno b (Lies.own_hb hb)), h.at_.same, h.at_.mails.chg hc (fun b hb => hno b (Lies.own_hm hb)), fun m hm => (hw.parts m hm).step hco fun k hk => .inl hk⟩, hco, fun k hk => .inl hk⟩

/-- What the loop keeps: k mailboxes turned, k entries. -/
structure TurnRel (w wr : World) (g : Nat) (q : Lies) (x : Acc) (mod : Int) (l : List Int) (vc : Value) (hc : Option Nat) (k : Nat) (o : Value) : Prop where
  out : ∃ h, Sl wr 117 4 o h k (flatE (turnEnts mod (l.take k))) ∧ ∀ b, h = some b → w.heap.size ≤ b
  st : Turned w wr g q { x with boxes := turnBoxes mod (l.take k) x.boxes } q
  src : Sl wr 3 1 vc hc l.length (l.map encI)
  new : ∀ b, hc = some b → w.heap.size ≤ b

theorem TurnRel.box {w wr : World} {g : Nat} {q : Lies} {x : Acc} {mod : Int} {l : List Int} {vc : Value} {hc : Option Nat} {k : Nat} {o : Value} (h : TurnRel w wr g q x mod l vc hc k o) (hk : k < l.length) (hall : ∀ i ∈ l, i ∈ ids x.boxes) (hn : x.boxes.length ≤ 1099511627776) (hw : StoreAt w g q x) :
    ∃ (j b off cap : Nat), j < x.boxes.length ∧ wr.cell? ⟨g, 10, none⟩ = some (.slice (some ⟨b, off, none⟩) x.boxes.length cap) ∧ wr.frozen? ⟨b, off + j * 6 + 5, none⟩ = false ∧ (∃ u, wr.cell? ⟨b, off + j * 6 + 5, none⟩ = some u) ∧ g < wr.heap.size ∧ b < wr.heap.size ∧
      (∀ W, Below wr.heap.size wr W → Calls Tryz.prog 74 #[.pointer (some ⟨g, 0, none⟩), .int .i64 l[k]] W fun e w' => e = .returned (.int .i64 j) ∧ Below W.heap.size W w') ∧
      (∀ W, Below wr.heap.size wr W → Turned w (W.setCell ⟨b, off + j * 6 + 5, none⟩ (.int .i64 mod)) g q { x with boxes := turnBoxes mod (l.take (k + 1)) x.boxes } q ∧
        (∀ {e size v hh n xs}, Sl wr e size v hh n xs → (∀ b', hh = some b' → w.heap.size ≤ b') → Sl (W.setCell ⟨b, off + j * 6 + 5, none⟩ (.int .i64 mod)) e size v hh n xs)) := by
  have hst := h.st.at_
  have hid : l[k] ∈ ids (turnBoxes mod (l.take k) x.boxes) := by
    rw [turnBoxes_ids]
    exact hall _ (List.getElem_mem hk)
  obtain ⟨j, hj, e1, e2, e3, e4, _⟩ := box_at hid
  have hlen := turnBoxes_length mod (l.take k) x.boxes
  obtain ⟨b, off, cap, hv, hhb, hnc, hcm, hlt, hat⟩ := hst.boxAt j hj
  obtain ⟨c1, c2⟩ := hat 5 (by omega)
  refine ⟨j, b, off, cap, by omega, ?_, c2, ⟨_, c1⟩, hst.blk.lt, hlt, fun W hb => ?_, fun W hb => ⟨?_, fun {e size v hh n xs} hs hf => ?_⟩⟩
  · rw [hst.cell10, hv]
    simp only [hlen]
  · have hbx := box_any g q.vb [] _ l[k] W ((hb.cell hst.blk.lt).trans hst.cell10) ((hst.boxes.keep (fun b hb2 => hb.block b (hst.boxes.lt b hb2))).reads [] (by simp)) (by simp only [hlen]; exact hn)
    simp only [e1] at hbx
    exact hbx
  · have ht := (hst.later hb).setBoxCell hv j hj 5 (by omega) (.int .i64 mod) { (turnBoxes mod (l.take k) x.boxes)[j] with mod := mod } rfl
    have h2 := (h.st.trans (Turned.of_below hst hb)).trans ht
    have h3 : (turnBoxes mod (l.take k) x.boxes).set j { (turnBoxes mod (l.take k) x.boxes)[j] with mod := mod } = turnBoxes mod (l.take (k + 1)) x.boxes := by
      rw [List.take_succ_eq_append_getElem hk, turnBoxes_snoc]
      exact (e4 (fun b => { b with mod := mod })).symm
    rw [← h3]
    exact h2
  · have hs1 := hs.keep (w' := W) (fun b' hb' => hb.block b' (hs.lt b' hb'))
    refine hs1.far (p := ⟨b, off + j * 6 + 5, none⟩) (fun e => ?_) _
    have h5 := hf b e
    have h6 := hw.lt b (Lies.own_hb hhb)
    omega

theorem TurnRel.start {w w1 w2 w3 : World} {g : Nat} {q : Lies} {x : Acc} {mod : Int} {l : List Int} {v3 : Value} {h1 : Option Nat} (h : StoreAt w g q x) (hb1 : Below w.heap.size w w1) (ho1 : ∀ b, h1 = some b → w.heap.size ≤ b) (hc2 : Chg h1.toList w1 w2) (hc3 : Chg h1.toList w2 w3) (hs3 : Sl w3 3 1 v3 h1 l.length (l.map encI)) : TurnRel w w3 g q x mod l v3 h1 0 (.slice none 0 0) := by
  have hown : ∀ k ∈ h1.toList, w.heap.size ≤ k := fun k hk => ho1 k (by simpa using hk)
  have hb2 : Below w.heap.size w w2 := hb1.trans (hc2.below hb1.size hown)
  have hb3 : Below w.heap.size w w3 := hb2.trans (hc3.below hb2.size hown)
  exact ⟨⟨none, Sl.nil _ _ _, fun b hb => by cases hb⟩, Turned.of_below h hb3, hs3, ho1⟩
theorem TurnRel.next {w wr W W2 : World} {g : Nat} {q : Lies} {x : Acc} {mod : Int} {l : List Int} {vc : Value} {hc : Option Nat} {k : Nat} {o o2 : Value} {h1 h2 : Option Nat} (hR : TurnRel w wr g q x mod l vc hc k o) (hk : k < l.length)
    (ht : Turned w W g q { x with boxes := turnBoxes mod (l.take (k + 1)) x.boxes } q) (hsrc : Sl W 3 1 vc hc l.length (l.map encI)) (hf1 : ∀ b, h1 = some b → w.heap.size ≤ b) (hne : ∀ b, h1 = some b → hc ≠ some b)
    (hs2 : Sl W2 117 4 o2 h2 (k + 1) (flatE (turnEnts mod (l.take k)) ++ [.int .i64 mod, .int .i64 1, .int .i64 l[k], .int .i64 2])) (hc2 : Chg h1.toList W W2) (ho2 : h2 = h1 ∨ ∃ g, h2 = some g ∧ W.heap.size ≤ g) (hw : StoreAt w g q x) :
    TurnRel w W2 g q x mod l vc hc (k + 1) o2 := by
  have hsz := ht.chg.size
  refine ⟨⟨h2, ?_, fun b hb => ?_⟩, ?_, ?_, hR.new⟩
  · rw [List.take_succ_eq_append_getElem hk, turnEnts_snoc, flatE_append]
    exact hs2
  · rcases ho2 with h3 | ⟨g2, h3, h4⟩
    · exact hf1 b (by rw [← h3]; exact hb)
    · rw [h3] at hb
      injection hb with hb
      omega
  · exact ht.newer hw hc2 fun k hk => hf1 k (by simpa using hk)
  · exact hsrc.chg hc2 (fun b hb hm => hne b (by simpa using hm) hb)

set_option maxRecDepth 100000 in
set_option maxHeartbeats 2000000 in
theorem turned_any (w : World) (g : Nat) (q : Lies) (x : Acc) (h : StoreAt w g q x) (hn : x.boxes.length ≤ 1099511627776) (mod : Int) (is : List Int) (v : Value) (S : List Nat) (hr : RdS w S 1 v is.length (is.map encI)) (hin : is.length ≤ 1099511627776) (hall : ∀ i ∈ is, i ∈ ids x.boxes) :
    Calls Tryz.prog 59 #[.pointer (some ⟨g, 0, none⟩), .int .i64 mod, v] w fun e w' => ∃ v' hh, e = .returned v' ∧ Sl w' 117 4 v' hh (rise is).length (flatE (turnEnts mod (rise is))) ∧ (∀ b, hh = some b → w.heap.size ≤ b) ∧ Turned w w' g q { x with boxes := turnBoxes mod (rise is) x.boxes } q := by
  obtain ⟨i0, hi, hz0, hz1, hz2⟩ := info_parts Try.infoEntry
  have hcl := cloneI_any w v is S hr hin
  have hall2 : ∀ i ∈ rise is, i ∈ ids x.boxes := fun i hi => hall i ((mem_rise is i).1 hi)
  have hlen := rise_length is
  have hri := compact_sortI is
  generalize rise is = l at hall2 hlen hri ⊢
  obtain ⟨n, hnn⟩ : ∃ n, l.length = n := ⟨_, rfl⟩
  have HW := Lib.hid h
  have HALL := Lib.hid hall2
  clear hr hall hall2 h
  go_enter Tryz.func59, Tryz.ntmps59
  go_wp2_with (first
    | (go_at_call 82; refine hcl.mono ?_; rintro e w1 ⟨v1, h1, rfl, hs1, hb1, ho1⟩; have hso := sortI_any w1 v1 h1 is.length is hs1 (by omega); have HB1 := Lib.hid hb1; have HO1 := Lib.hid ho1; clear hcl hs1 hb1 ho1)
    | (go_at_call 114; refine hso.mono ?_; rintro e w2 ⟨rfl, hs2, hc2⟩; have hco := compactI_any w2 v1 h1 is.length (sortI is) hs2 (by omega); have HC2 := Lib.hid hc2; clear hso hs2 hc2)
    | (go_at_call 115; refine hco.mono ?_; rintro e w3 ⟨v3, rfl, hs3, hc3⟩; rw [hri] at hs3; have HT := Lib.hid (TurnRel.start (mod := mod) HW.out HB1.out HO1.out HC2.out hc3 hs3); obtain ⟨A3, cap3, rfl, _, _⟩ := hs3.form; clear hco hs3 hc3 HB1 HO1 HC2)
    | fail)
  rw [hnn] at HT
  go_loopw [8, 18] (fun o i wr => ∃ k : Nat, k ≤ n ∧ i = .int .i64 k ∧ Hid (TurnRel w wr g q x mod l (.slice A3 n cap3) h1 k o)) (fun _ i _ => n - (intOf i).toNat)
  case atStart => exact ⟨0, Nat.zero_le _, rfl, HT⟩
  case round =>
    obtain ⟨k, hk, rfl, HU⟩ := hrel
    by_cases hlt : k < n
    · have hkl : k < l.length := by omega
      obtain ⟨j, b, off, cap, hj, c10, cf, ⟨u0, cu⟩, hg, hb, hbx, hend⟩ := HU.out.box hkl HALL.out hn HW.out
      obtain ⟨b3, off3, cap3', _, hv3, _, _, hb3, hat3⟩ := HU.out.src.at_ (by omega)
      injection hv3 with hv1 hv2 hv3
      subst hv1 hv3
      clear hv2
      have cs : wr.cell? ⟨b3, off3 + k, none⟩ = some (.int .i64 l[k]) := by
        rw [(hat3 k (by omega)).1]
        simp [hkl]
      obtain ⟨h0, hs0, hf0⟩ := HU.out.out
      obtain ⟨A0, cap0, rfl, _, _⟩ := hs0.form
      have HE := Lib.hid hend
      have HS0 := Lib.hid hs0
      have HF0 := Lib.hid hf0
      obtain ⟨id, hid⟩ : ∃ id, l[k] = id := ⟨_, rfl⟩
      have HID := Lib.hid hid
      rw [hid] at cs hbx
      obtain ⟨nb, hnb⟩ : ∃ nb, x.boxes.length = nb := ⟨_, rfl⟩
      rw [hnb] at c10 hj
      have hj1 : (j : Int) < (nb : Int) := by omega
      clear hat3 hend hs0 hf0 hid hnb
      go_upto_region 7 with (fail)
      go_cut [10] (fun i wx => i = .int .i64 id ∧ Hid (Turned w wx g q { x with boxes := turnBoxes mod (l.take (k + 1)) x.boxes } q ∧ Sl wx 3 1 (.slice (some ⟨b3, off3, none⟩) n cap3) h1 l.length (l.map encI) ∧ Sl wx 117 4 (.slice A0 k cap0) h0 k (flatE (turnEnts mod (l.take k)))))
      case first =>
        go_region_with (first
          | (go_at_call 74; refine (hbx _ (below_drew1 _)).mono ?_; rintro e w4 ⟨rfl, hb4⟩; have hb5 := below_drop hb4; have k10 := (hb5.cell (p := ⟨g, 10, none⟩) hg).trans c10; have kf := (below_frozen hb5 (p := ⟨b, off + j * 6 + 5, none⟩) hb).trans cf; have ku := (hb5.cell (p := ⟨b, off + j * 6 + 5, none⟩) hb).trans cu; have HB5 := Lib.hid hb5; clear hb4 hb5)
          | fail)
        all_goals
          go_wp2_with fail
          go_meet
          exact ⟨rfl, Lib.hid ⟨(HE.out _ HB5.out).1, (HE.out _ HB5.out).2 HU.out.src HU.out.new, (HE.out _ HB5.out).2 HS0.out HF0.out⟩⟩
      case rest =>
        obtain ⟨rfl, HC⟩ := hcut
        obtain ⟨we, rfl⟩ : ∃ we : World, we = wc := ⟨_, rfl⟩
        go_wp2_with (first
          | (at_builtin; refine wpList_append_sl rfl _ _ 93 rfl Tryz.underlying93 hi hz0 hz1 hz2 rfl (by decide) HC.out.2.2 rfl 1 1 rfl rfl ?_ ?_ ?_ ?_))
        · simp [Value.oneCell']
        · unfold maxLen
          omega
        · omega
        · intro v2 h2 w5 hs5 hc5 ho5
          have HN : Hid (TurnRel w w5 g q x mod l (.slice (some ⟨b3, off3, none⟩) n cap3) h1 (k + 1) v2) := Lib.hid (by
            have hid := HID.out
            subst hid
            exact HU.out.next hkl HC.out.1 HC.out.2.1 HF0.out (fun b' hb' e => HC.out.2.1.ne_sl HC.out.2.2 (by decide) b' e hb') hs5 hc5 ho5 HW.out)
          clear hs5 hc5 ho5 HC
          go_wp2_with fail
          refine ⟨?_, by simp [intOf]; omega⟩
          first | exact ⟨k + 1, by omega, by go_num, HN⟩ | ((repeat apply Exists.intro); exact ⟨⟨k + 1, by omega, by go_num, HN⟩, rfl⟩)
    · have hkn : k = n := by omega
      subst hkn
      obtain ⟨h0, hs0, hf0⟩ := HU.out.out
      obtain ⟨A0, cap0, rfl, hnc0, hcm0⟩ := hs0.form
      rw [List.take_of_length_le (by omega)] at hs0
      have hst := HU.out.st
      rw [List.take_of_length_le (by omega)] at hst
      have hkk : (0 : Int) ≤ (k : Int) := by omega
      have hkc : (k : Int) ≤ (cap0 : Int) := by omega
      have HF := Lib.hid hf0
      have HS := Lib.hid hs0
      have HST := Lib.hid hst
      clear hs0 hst hf0 HU
      go_wp2_with fail
      go_ret
      refine ⟨_, h0, rfl, ?_, HF.out, HST.out⟩
      rw [hnn]
      exact HS.out.tight

end Go.Proofs.YtmbibhphpjmboaaGreatDoor
