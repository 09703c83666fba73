/-
  The walk of the store's wanted: mailboxes, rising, each once; are they all there?
-/
import Derived.Test.YtmbibhphpjmboaaGreatDoorTurned
namespace Go.Proofs.YtmbibhphpjmboaaGreatDoor
open Go.Shelf Go.RowKit Go.Lib
attribute [local go_sem ↓] Go.wp_at_zero Go.wp_at_succ

theorem boxOf_neg (id : Int) (l : List BoxP) : decide (boxOf id l < 0) = !hasBox l id := by
  have h := any_place (fun b : BoxP => decide (b.id = id)) l
  have h2 : hasBox l id = decide (0 ≤ boxOf id l) := h
  rw [h2]
  by_cases hlt : boxOf id l < 0
  · rw [decide_eq_true hlt, decide_eq_false (by omega)]
    rfl
  · rw [decide_eq_false hlt, decide_eq_true (by omega)]
    rfl

theorem wantPred_any (w : World) (g : Nat) (q : Lies) (x : Acc) (h : StoreAt w g q x) (hn : x.boxes.length ≤ 1099511627776) (B : Nat) (hB : w.cell? ⟨B, 0, none⟩ = some (.pointer (some ⟨g, 0, none⟩))) (W : World) (hb : Below w.heap.size w W) (id : Int) :
    Calls Tryz.prog 116 (#[.int .i64 id] ++ #[.pointer (some ⟨B, 0, none⟩)]) W fun e w' => e = .returned (.bool (!hasBox x.boxes id)) ∧ Below w.heap.size w w' := by
  show Calls Tryz.prog 116 #[.int .i64 id, .pointer (some ⟨B, 0, none⟩)] W _
  have hlt := World.block_lt_of_cell? _ _ hB
  have hc := (hb.cell (p := ⟨B, 0, none⟩) hlt).trans hB
  have hst := h.later hb
  have hbx := box_any g q.vb [] x.boxes id W hst.cell10 (hst.boxes.reads [] (by simp)) hn
  rw [← boxOf_neg]
  generalize boxOf id x.boxes = r at hbx
  have HB := Lib.hid hb
  clear hB hst h hb
  go_enter Tryz.func116, Tryz.ntmps116
  go_wp2_with (first
    | (go_at_call 74; refine hbx.mono ?_; rintro e w3 ⟨rfl, hb3⟩)
    | fail)
  go_ret
  exact ⟨rfl, below_then HB.out hb3⟩

set_option maxHeartbeats 1000000 in
theorem wanted_any (w : World) (g : Nat) (q : Lies) (x : Acc) (h : StoreAt w g q x) (hn : x.boxes.length ≤ 1099511627776) (is : List Int) (v : Value) (S : List Nat) (hr : RdS w S 1 v is.length (is.map encI)) (hin : is.length ≤ 1099511627776) :
    Calls Tryz.prog 52 #[.pointer (some ⟨g, 0, none⟩), v] w fun e w' => ∃ v' hh, e = .returned (.tuple #[v', .bool (!(rise is).any (fun id => !hasBox x.boxes id))]) ∧ Sl w' 3 1 v' hh (rise is).length ((rise is).map encI) ∧ (∀ b, hh = some b → w.heap.size ≤ b) ∧ Below w.heap.size w w' := by
  have hb0 := below_alloc1 w (.cells #[.pointer (some ⟨g, 0, none⟩)] 24)
  have hcl := cloneI_any (w.alloc (.cells #[.pointer (some ⟨g, 0, none⟩)] 24)) v is S (hr.below hb0) hin
  have hw1 : (w.alloc (.cells #[.pointer (some ⟨g, 0, none⟩)] 24)).cell? ⟨w.heap.size, 0, none⟩ = some (.pointer (some ⟨g, 0, none⟩)) := (World.cell?_alloc_at _ _ _ _ rfl).trans rfl
  have hlen := rise_length is
  have hri := compact_sortI is
  generalize rise is = l at hlen hri ⊢
  have eg : ∀ args W, (callFunc 116 args).run Tryz.prog W = .ok (.enter 116 args) W := enters_of Tryz.func116 (by kernel_rfl) rfl
  have hcf : ∀ (w3 : World) v3 h3, Below (w.alloc (.cells #[.pointer (some ⟨g, 0, none⟩)] 24)).heap.size (w.alloc (.cells #[.pointer (some ⟨g, 0, none⟩)] 24)) w3 → Sl w3 3 1 v3 h3 l.length (l.map encI) →
      Calls Tryz.prog 54 #[v3, .func (.func 116) #[] #[.pointer (some ⟨w.heap.size, 0, none⟩)]] w3 fun e w' => e = .returned (.bool (l.any fun id => !hasBox x.boxes id)) ∧ Below w3.heap.size w3 w' := fun w3 v3 h3 hb3 hs3 =>
    hasI_any v3 [] l (fun id => !hasBox x.boxes id) _ _ eg w3 (hs3.reads [] (by simp)) (by omega) (fun W hb id _ => wantPred_any w3 g q x (h.later (below_then hb0 hb3)) hn _ ((hb3.cell (by simp)).trans hw1) W hb id)
  generalize (l.any fun id => !hasBox x.boxes id) = ans at hcf
  have HB0 := Lib.hid hb0
  have HCF := Lib.hid hcf
  clear hr hb0 hw1 eg hcf h
  go_enter Tryz.func52, Tryz.ntmps52
  go_wp2_with (first
    | (go_at_call 82; refine hcl.mono ?_; rintro e w1 ⟨v1, h1, rfl, hs1, hb1, ho1⟩; have hso := sortI_any w1 v1 h1 is.length is hs1 (by omega); have HB1 := Lib.hid hb1; have HO1 := Lib.hid ho1; clear hcl hs1 hb1 ho1)
    | (go_at_call 114; refine hso.mono ?_; rintro e w2 ⟨rfl, hs2, hc2⟩; have hco := compactI_any w2 v1 h1 is.length (sortI is) hs2 (by omega); have HB2 := Lib.hid (HB1.out.trans (hc2.below HB1.out.size (fun k hk => HO1.out k (by simpa using hk)))); clear hso hs2 hc2)
    | (go_at_call 115; refine hco.mono ?_; rintro e w3 ⟨v3, rfl, hs3, hc3⟩; rw [hri] at hs3; have hb3 := HB2.out.trans (hc3.below HB2.out.size (fun k hk => HO1.out k (by simpa using hk))); have hcf := HCF.out w3 v3 h1 hb3 hs3; have HS3 := Lib.hid hs3; have HB3 := Lib.hid hb3; clear hco hs3 hc3 hb3)
    | (go_at_call 54; refine hcf.mono ?_; rintro e w4 ⟨rfl, hb4⟩; have HB4 := Lib.hid hb4; clear hb4 hcf)
    | fail)
  go_ret2
  exact ⟨v3, h1, rfl, HS3.out.keep (fun b hb => HB4.out.block b (HS3.out.lt b hb)), fun b hb => Nat.le_trans HB0.out.size (HO1.out b hb), below_then (below_then HB0.out HB3.out) HB4.out⟩

end Go.Proofs.YtmbibhphpjmboaaGreatDoor
