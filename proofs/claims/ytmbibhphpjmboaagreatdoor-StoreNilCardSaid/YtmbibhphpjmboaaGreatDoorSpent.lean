/-
  The walks of the store's spent and number: a mailbox's next number.
-/
import Derived.Test.YtmbibhphpjmboaaGreatDoorPlaces
import Derived.Test.YtmbibhphpjmboaaGreatDoorStoreMem
namespace Go.Proofs.YtmbibhphpjmboaaGreatDoor
open Go.Shelf Go.RowKit Go.Lib
attribute [local go_sem ↓] Go.wp_at_zero Go.wp_at_succ

theorem box_at : ∀ {l : List BoxP} {id : Int}, id ∈ ids l → ∃ k, ∃ hk : k < l.length, boxOf id l = (k : Int) ∧ l[k].id = id ∧ nextOf l id = l[k].next ∧ (∀ f, setBox id f l = l.set k (f l[k])) ∧ l.find? (fun b => decide (b.id = id)) = some l[k]
  | [], id, h => by simp [ids] at h
  | b :: r, id, h => by
    by_cases hb : b.id = id
    · exact ⟨0, by simp, by simp [boxOf, place, hb], hb, by simp [nextOf, hb], fun f => by simp [setBox, hb], by simp [hb]⟩
    · have h' : id ∈ ids r := by
        simp only [ids, List.map_cons, List.mem_cons] at h
        rcases h with h | h
        · exact absurd h.symm hb
        · exact h
      obtain ⟨k, hk, h1, h2, h3, h4, h5⟩ := box_at h'
      refine ⟨k + 1, by simpa using hk, ?_, h2, ?_, fun f => ?_, ?_⟩
      · have h1' : place (fun b : BoxP => decide (b.id = id)) r = k := h1
        have hb' : ¬ decide (b.id = id) = true := by simpa using hb
        unfold boxOf place
        rw [if_neg hb', h1', if_neg (by omega)]
        omega
      · rw [List.getElem_cons_succ, ← h3]
        simp [nextOf, hb]
      · simp only [setBox, if_neg hb, h4 f, List.set_cons_succ, List.getElem_cons_succ]
      · rw [List.find?_cons_of_neg (by simpa using hb)]
        exact h5

section
variable {w w' : World} {g : Nat} {q : Lies} {x : Acc}
/-- The mailboxes' own block turned. -/
theorem StoreAt.boxesTo (h : StoreAt w g q x) (bs : List BoxP) (hc : Chg q.hb.toList w w') (hs : Sl w' 52 6 q.vb q.hb bs.length (flatG encB bs)) : Turned w w' g q { x with boxes := bs } q := by
  have ha := h.apart
  have hco : Chg (q.own g) w w' := hc.mono fun k hk => .inl (Lies.own_hb (by simpa using hk))
  refine ⟨⟨?_, ?_, hs, h.same, ?_, fun m hmm => (h.parts m hmm).step hco (fun k hk => .inl hk)⟩, hco, fun k hk => .inl hk⟩
  · exact h.blk.chg hc (by simpa using ha.hb)
  · exact h.log.chg hc (by simpa using ha.lb) (fun b hb => by simpa using ha.eb b hb)
  · exact h.mails.chg hc (fun b hb => by
      simp only [Option.mem_toList]
      exact fun e => ha.bm b e hb)
theorem below_alloc1 (w : World) (o : Obj) : Below w.heap.size w (w.alloc o) := (Below.refl _ w).alloc (Nat.le_refl _) o
theorem below_drew1 (w : World) : Below w.heap.size w w.drew := ⟨rfl, rfl, rfl, Nat.le_refl _, fun _ _ => rfl⟩
theorem below_drop {B : Nat} {w w' : World} (h : Below B w.drew w') : Below B w w' := ⟨h.os, h.tape, h.output, h.size, h.block⟩
theorem below_then {w w1 w2 : World} (h : Below w.heap.size w w1) (h2 : Below w1.heap.size w1 w2) : Below w.heap.size w w2 := h.trans (h2.mono h.size)
theorem below_frozen {w w' : World} (h : Below w.heap.size w w') {p : Addr} (hp : p.block < w.heap.size) : w'.frozen? p = w.frozen? p := World.frozen?_of_block (h.block p.block hp)
theorem cell_heap {W : World} (he : W.heap = w.heap) (p : Addr) : W.cell? p = w.cell? p := World.cell?_of_block (by rw [he])
end

theorem spent_any (w : World) (g : Nat) (q : Lies) (x : Acc) (h : StoreAt w g q x) (hn : x.boxes.length ≤ 1099511627776) (id : Int) (hid : id ∈ ids x.boxes) :
    Calls Tryz.prog 55 #[.pointer (some ⟨g, 0, none⟩), .int .i64 id] w fun e w' => e = .returned (.bool (x.spent id)) ∧ Below w.heap.size w w' := by
  obtain ⟨k, hk, e1, _, e3, _, _⟩ := box_at hid
  obtain ⟨b, off, cap, hv, hhb, hnc, hcm, hlt, hat⟩ := h.boxAt k hk
  have c10 : w.cell? ⟨g, 10, none⟩ = some (.slice (some ⟨b, off, none⟩) x.boxes.length cap) := h.cell10.trans (by rw [hv])
  have c5 : w.cell? ⟨g, 5, none⟩ = some (.int .i64 x.cfg.maxUid) := h.cells 5
  have cn : w.cell? ⟨b, off + k * 6 + 4, none⟩ = some (.int .i64 x.boxes[k].next) := (hat 4 (by omega)).1
  have hbx := fun W (he : W.heap = w.heap) => box_any g q.vb [] x.boxes id W ((cell_heap he _).trans h.cell10) ((h.boxes.heap he).reads [] (by simp)) hn
  rw [e1] at hbx
  have hsp : x.spent id = decide (x.cfg.maxUid < x.boxes[k].next) := by
    unfold Acc.spent
    rw [e3]
  have hgl := h.blk.lt
  rw [hsp]
  obtain ⟨nx, hnx⟩ : ∃ nx, x.boxes[k].next = nx := ⟨_, rfl⟩
  rw [hnx] at cn ⊢
  obtain ⟨n, hnn⟩ : ∃ n, x.boxes.length = n := ⟨_, rfl⟩
  rw [hnn] at c10 hnc
  obtain ⟨mu, hmu⟩ : ∃ mu, x.cfg.maxUid = mu := ⟨_, rfl⟩
  rw [hmu] at c5 ⊢
  have hk1 : (k : Int) < (n : Int) := by omega
  have hk2 : k < n := by omega
  clear hsp e1 e3 hat hv hhb hn hid h hnx hmu hnn
  go_enter Tryz.func55, Tryz.ntmps55
  go_wp2_with fail
  go_region_with (first
    | (go_at_call 74; refine (hbx _ (by rfl)).mono ?_; rintro e w3 ⟨rfl, hb3⟩; have k10 := (hb3.cell (p := ⟨g, 10, none⟩) hgl).trans c10; have k5 := (hb3.cell (p := ⟨g, 5, none⟩) hgl).trans c5; have k4 := (hb3.cell (p := ⟨b, off + k * 6 + 4, none⟩) hlt).trans cn; have HB3 := Lib.hid (below_drop hb3); clear hb3)
    | fail)
  all_goals
    go_wp2
    go_ret
    exact ⟨rfl, HB3.out⟩

theorem number_any (w : World) (g : Nat) (q : Lies) (x : Acc) (h : StoreAt w g q x) (hn : x.boxes.length ≤ 1099511627776) (id : Int) (hid : id ∈ ids x.boxes) (hnx1 : 0 ≤ nextOf x.boxes id ∧ nextOf x.boxes id ≤ 4294967296) :
    Calls Tryz.prog 58 #[.pointer (some ⟨g, 0, none⟩), .int .i64 id] w fun e w' => e = .returned (.agg #[.int .i64 id, .int .i64 (nextOf x.boxes id)]) ∧ Turned w w' g q { x with boxes := bump id x.boxes } q := by
  obtain ⟨k, hk, e1, _, e3, e4, _⟩ := box_at hid
  obtain ⟨b, off, cap, hv, hhb, hnc, hcm, hlt, hat⟩ := h.boxAt k hk
  have c10 : w.cell? ⟨g, 10, none⟩ = some (.slice (some ⟨b, off, none⟩) x.boxes.length cap) := h.cell10.trans (by rw [hv])
  obtain ⟨cn, cf⟩ := hat 4 (by omega)
  have cn : w.cell? ⟨b, off + k * 6 + 4, none⟩ = some (.int .i64 x.boxes[k].next) := cn
  have hbx := fun W (hb : Below w.heap.size w W) => box_any g q.vb [] x.boxes id W ((hb.cell h.blk.lt).trans h.cell10) ((h.boxes.keep (fun b hb2 => hb.block b (h.boxes.lt b hb2))).reads [] (by simp)) hn
  rw [e1] at hbx
  have hgl := h.blk.lt
  have hend : ∀ W nx, x.boxes[k].next = nx → Below w.heap.size w W → ∀ u1 u2, Turned w (((W.setCell ⟨b, off + k * 6 + 4, none⟩ (.int .i64 (nx + 1))).setCell ⟨w.heap.size, 0, none⟩ u1).setCell ⟨w.heap.size, 1, none⟩ u2) g q { x with boxes := bump id x.boxes } q := by
    rintro W nx rfl hb u1 u2
    refine h.boxesTo _ ?_ ?_
    · rw [hhb]
      exact (((Chg.of_below hb [b]).set (.inl (by simp)) _).set (.inr (Nat.le_refl _)) _).set (.inr (Nat.le_refl _)) _
    · have hb1 := h.boxes.keep (w' := W) (fun b hb2 => hb.block b (h.boxes.lt b hb2))
      rw [hv] at hb1
      have hb2 := hb1.store (k * 6 + 4) (.int .i64 (x.boxes[k].next + 1))
      rw [flatG_set encB_length x.boxes k 4 hk (by omega) _ { x.boxes[k] with next := x.boxes[k].next + 1 } rfl, ← Nat.add_assoc, ← hv] at hb2
      have hfar : q.hb ≠ some w.heap.size := fun e => by
        rw [hhb] at e
        injection e with e
        omega
      have hb3 := (hb2.far (p := ⟨w.heap.size, 0, none⟩) hfar u1).far (p := ⟨w.heap.size, 1, none⟩) hfar u2
      have hbm : bump id x.boxes = x.boxes.set k { x.boxes[k] with next := x.boxes[k].next + 1 } := e4 _
      rw [hbm, List.length_set]
      exact hb3
  rw [e3] at hnx1 ⊢
  obtain ⟨nx, hnx⟩ : ∃ nx, x.boxes[k].next = nx := ⟨_, rfl⟩
  have hend2 := fun W => hend W nx hnx
  rw [hnx] at cn hnx1 ⊢
  obtain ⟨n, hnn⟩ : ∃ n, x.boxes.length = n := ⟨_, rfl⟩
  rw [hnn] at c10 hnc
  have hk1 : (k : Int) < (n : Int) := by omega
  have hk2 : k < n := by omega
  obtain ⟨hx0, hx1⟩ := hnx1
  have hs1 : -9223372036854775808 ≤ nx + 1 := by omega
  have hs2 : nx + 1 ≤ 9223372036854775807 := by omega
  have hs3 : nx + 1 - 1 = nx := by omega
  have HE := Lib.hid hend2
  clear hend hend2 e1 e3 e4 hat hv hhb hn hid h hnx hnn
  go_enter Tryz.func58, Tryz.ntmps58
  go_wp2_with fail
  have d10 := (World.cell?_alloc_lt w (.cells #[.int .i64 0, .int .i64 0] 71) ⟨g, 10, none⟩ hgl).trans c10
  go_region_with (first
    | (go_at_call 74; refine (hbx _ (below_then (below_alloc1 w _) (below_drew1 _))).mono ?_; rintro e w3 ⟨rfl, hb3⟩; have hb5 := below_drop hb3; have hb6 := below_then (below_alloc1 w _) hb5; have hk0 := (Blk.new w 71 #[.int .i64 0, .int .i64 0]).below hb5 (by simp); have r0 : w3.cell? ⟨w.heap.size, 0, none⟩ = some (.int .i64 0) := hk0.cell 0; have r1 : w3.cell? ⟨w.heap.size, 1, none⟩ = some (.int .i64 0) := hk0.cell 1; have HK := Lib.hid hk0; have f0 := hk0.frozen 0; have f1 := hk0.frozen 1; have k4 := (hb6.cell (p := ⟨b, off + k * 6 + 4, none⟩) hlt).trans cn; have k10 := (hb6.cell (p := ⟨g, 10, none⟩) hgl).trans c10; have kf := (below_frozen hb6 (p := ⟨b, off + k * 6 + 4, none⟩) hlt).trans cf; have HB6 := Lib.hid hb6; clear hb3 hb5 hb6 hk0)
    | fail)
  all_goals
    have hne : b ≠ w.heap.size := by omega
    go_wp2
    refine bodyPost_ret (v := .agg #[.int .i64 id, .int .i64 nx]) ?_ rfl ⟨rfl, HE.out _ HB6.out _ _⟩
    have hz := ((HK.out.far (p := ⟨b, off + k * 6 + 4, none⟩) (fun e => hne e.symm) (.int .i64 (nx + 1))).set 0 (.int .i64 id)).set 1 (.int .i64 nx)
    have z0 := hz.cell 0
    have z1 := hz.cell 1
    simp at z0 z1
    simp [results, Tryz.results58, go_sem, z0, z1]

end Go.Proofs.YtmbibhphpjmboaaGreatDoor
