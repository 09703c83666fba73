/-
  The walk of the store's Drop: what it hands back, and the account behind it, are dropP's.
  The walk of the store's Drop, way by way.
  The walks of the tree's search for a mailbox, and of whether one lies beneath another.
  The walk of the store's Rename, way by way.
-/
import Derived.Test.YtmbibhphpjmboaaGreatDoorGN
import Derived.Test.YtmbibhphpjmboaaGreatDoorGU
namespace Go.Proofs.YtmbibhphpjmboaaGreatDoor
open Go.Shelf Go.RowKit
attribute [local go_sem ↓] Go.wp_at_zero Go.wp_at_succ

theorem parPred_any (id : Int) (B : Nat) (w W : World) (x : BoxP) (hB : w.cell? ⟨B, 0, none⟩ = some (.int .i64 id)) (hb : Below w.heap.size w W) :
    Calls Tryz.prog 77 (#[.agg (encB x).toArray] ++ #[.pointer (some ⟨B, 0, none⟩)]) W fun e w' => e = .returned (.bool (decide (x.parent = id))) ∧ Below w.heap.size w w' := by
  have hlt := World.block_lt_of_cell? _ _ hB
  have hc := (hb.cell (p := ⟨B, 0, none⟩) hlt).trans hB
  have hlt2 : B < W.heap.size := Nat.lt_of_lt_of_le hlt hb.size
  obtain ⟨i, nm, pa, va, ne, mo⟩ := x
  show Calls Tryz.prog 77 #[.agg #[.int .i64 i, .string ⟨nm.toArray⟩, .int .i64 pa, .int .i64 va, .int .i64 ne, .int .i64 mo], .pointer (some ⟨B, 0, none⟩)] W _
  have hc2 : (W.alloc (.cells #[.int .i64 i, .string ⟨nm.toArray⟩, .int .i64 pa, .int .i64 va, .int .i64 ne, .int .i64 mo] 52)).cell? ⟨B, 0, none⟩ = some (.int .i64 id) := (World.cell?_alloc_lt W _ _ hlt2).trans hc
  have HB := Lib.hid hb
  clear hb hc hB
  by_cases hi : pa = id
  · subst hi
    simp only [decide_true]
    go_enter Tryz.func77, Tryz.ntmps77
    go_wp2
    go_ret
    exact ⟨rfl, HB.out.alloc HB.out.size _⟩
  · have e : (pa == id) = false := by simpa using hi
    have e2 : decide (pa = id) = false := decide_eq_false hi
    simp only [e2]
    clear e2 hi
    go_enter Tryz.func77, Tryz.ntmps77
    go_wp2
    go_ret
    exact ⟨rfl, HB.out.alloc HB.out.size _⟩
theorem memPred_any (id : Int) (B : Nat) (w W : World) (x : Int × Int) (hB : w.cell? ⟨B, 0, none⟩ = some (.int .i64 id)) (hb : Below w.heap.size w W) :
    Calls Tryz.prog 132 (#[.agg (encMem x).toArray] ++ #[.pointer (some ⟨B, 0, none⟩)]) W fun e w' => e = .returned (.bool (decide (x.1 = id))) ∧ Below w.heap.size w w' := by
  have hlt := World.block_lt_of_cell? _ _ hB
  have hc := (hb.cell (p := ⟨B, 0, none⟩) hlt).trans hB
  have hlt2 : B < W.heap.size := Nat.lt_of_lt_of_le hlt hb.size
  obtain ⟨i, u⟩ := x
  show Calls Tryz.prog 132 #[.agg #[.int .i64 i, .int .i64 u], .pointer (some ⟨B, 0, none⟩)] W _
  have hc2 : (W.alloc (.cells #[.int .i64 i, .int .i64 u] 71)).cell? ⟨B, 0, none⟩ = some (.int .i64 id) := (World.cell?_alloc_lt W _ _ hlt2).trans hc
  have HB := Lib.hid hb
  clear hb hc hB
  by_cases hi : i = id
  · subst hi
    simp only [decide_true]
    go_enter Tryz.func132, Tryz.ntmps132
    go_wp2
    go_ret
    exact ⟨rfl, HB.out.alloc HB.out.size _⟩
  · have e : (i == id) = false := by simpa using hi
    have e2 : decide (i = id) = false := decide_eq_false hi
    simp only [e2]
    clear e2 hi
    go_enter Tryz.func132, Tryz.ntmps132
    go_wp2
    go_ret
    exact ⟨rfl, HB.out.alloc HB.out.size _⟩
theorem holds_any (w : World) (a0 a1 a3 a6 a7 id : Int) (s2 : ByteArray) (vk vm : Value) (l : List (Int × Int)) (hm : RdS w [] 2 vm l.length (flatG encMem l)) (hn : l.length ≤ 1099511627776) :
    Calls Tryz.prog 79 #[.agg #[.int .i64 a0, .int .i64 a1, .string s2, .int .i64 a3, vk, vm, .int .i64 a6, .int .i64 a7], .int .i64 id] w fun e w' => e = .returned (.bool (l.any fun p => decide (p.1 = id))) ∧ Below w.heap.size w w' := by
  obtain ⟨w2, hw2⟩ : ∃ w2 : World, w2 = (w.alloc (.cells #[.int .i64 a0, .int .i64 a1, .string s2, .int .i64 a3, vk, vm, .int .i64 a6, .int .i64 a7] 40)).alloc (.cells #[.int .i64 id] 3) := ⟨_, rfl⟩
  have hb2 : Below w.heap.size w w2 := by
    rw [hw2]
    exact below_then (below_alloc1 _ _) (below_alloc1 _ _)
  have hc2 : w2.cell? ⟨w.heap.size + 1, 0, none⟩ = some (.int .i64 id) := by
    rw [hw2]
    have h1 := (Blk.new (w.alloc (.cells #[.int .i64 a0, .int .i64 a1, .string s2, .int .i64 a3, vk, vm, .int .i64 a6, .int .i64 a7] 40)) 3 #[.int .i64 id]).cell 0
    rw [World.size_alloc] at h1
    exact h1
  have hc5 : w2.cell? ⟨w.heap.size, 5, none⟩ = some vm := by
    rw [hw2]
    exact ((Blk.new w 40 #[.int .i64 a0, .int .i64 a1, .string s2, .int .i64 a3, vk, vm, .int .i64 a6, .int .i64 a7]).alloc (.cells #[.int .i64 id] 3)).cell 5
  have hp := hasP_any vm [] l (fun p => decide (p.1 = id)) 132 #[.pointer (some ⟨w.heap.size + 1, 0, none⟩)] (enters_of Tryz.func132 (by kernel_rfl) rfl) w2 (hm.below hb2) hn (fun W hb x _ => memPred_any id _ w2 W x hc2 hb)
  have hp' : Calls Tryz.prog 131 #[vm, .func (.func 132) #[] #[.pointer (some ⟨w.heap.size + 1, 0, none⟩)]] w2 fun e w' => e = .returned (.bool (l.any fun p => decide (p.1 = id))) ∧ Below w2.heap.size w2 w' := hp
  generalize (l.any fun p => decide (p.1 = id)) = r at hp'
  have HP := Lib.hid hp'
  have HB2 := Lib.hid hb2
  have HW2 := Lib.hid hw2
  clear hp hp' hm hb2
  go_enter Tryz.func79, Tryz.ntmps79
  go_upto_region 1 with (fail)
  rw [← HW2.out]
  clear hw2
  go_wp2_with (first
    | (go_at_call 131; refine HP.out.mono ?_; rintro e w4 ⟨rfl, hb4⟩; have HB4 := Lib.hid (below_then HB2.out hb4); clear hb4)
    | fail)
  go_ret
  exact ⟨rfl, HB4.out⟩
theorem dropPred2_any (id : Int) (B : Nat) (w W : World) (x : MailM) (hB : w.cell? ⟨B, 0, none⟩ = some (.int .i64 id)) (hb : Below w.heap.size w W) (hm : RdS W [] 2 x.mv x.p.members.length (flatG encMem x.p.members)) (hn : x.p.members.length ≤ 1099511627776) :
    Calls Tryz.prog 78 (#[.agg (encM x).toArray] ++ #[.pointer (some ⟨B, 0, none⟩)]) W fun e w' => e = .returned (.bool (holdsP x.p id)) ∧ Below w.heap.size w w' := by
  have hlt := World.block_lt_of_cell? _ _ hB
  have hc := (hb.cell (p := ⟨B, 0, none⟩) hlt).trans hB
  have hlt2 : B < W.heap.size := Nat.lt_of_lt_of_le hlt hb.size
  obtain ⟨⟨i, th, tx, ta, ks, me, mo, bo⟩, kv, mv⟩ := x
  show Calls Tryz.prog 78 #[.agg #[.int .i64 i, .int .i64 th, .string ⟨tx.toArray⟩, .int .i64 ta, kv, mv, .int .i64 mo, .int .i64 bo], .pointer (some ⟨B, 0, none⟩)] W _
  have hc2 : (W.alloc (.cells #[.int .i64 i, .int .i64 th, .string ⟨tx.toArray⟩, .int .i64 ta, kv, mv, .int .i64 mo, .int .i64 bo] 40)).cell? ⟨B, 0, none⟩ = some (.int .i64 id) := (World.cell?_alloc_lt W _ _ hlt2).trans hc
  have hh := holds_any (W.alloc (.cells #[.int .i64 i, .int .i64 th, .string ⟨tx.toArray⟩, .int .i64 ta, kv, mv, .int .i64 mo, .int .i64 bo] 40)) i th ta mo bo id ⟨tx.toArray⟩ kv mv me (hm.below (below_alloc1 _ _)) hn
  show Calls _ _ _ _ fun e w' => e = .returned (.bool (me.any fun p => decide (p.1 = id))) ∧ _
  generalize (me.any fun p => decide (p.1 = id)) = r at hh
  have HH := Lib.hid hh
  have HB := Lib.hid hb
  clear hb hc hB hh hm
  go_enter Tryz.func78, Tryz.ntmps78
  go_wp2_with (first
    | (go_at_call 79; refine HH.out.mono ?_; rintro e w4 ⟨rfl, hb4⟩; have HB4 := Lib.hid hb4; clear hb4)
    | fail)
  go_ret
  exact ⟨rfl, below_then HB.out (below_then (below_alloc1 _ _) HB4.out)⟩

end Go.Proofs.YtmbibhphpjmboaaGreatDoor

namespace Go.Proofs.YtmbibhphpjmboaaGreatDoor
open Go.Shelf Go.RowKit
attribute [local go_sem ↓] Go.wp_at_zero Go.wp_at_succ

theorem cell_far (w : World) (p a : Addr) (v : Value) (h : a.block ≠ p.block) : (w.setCell p v).cell? a = w.cell? a := World.cell?_of_block (Below.heap_setCell w p v a.block h)

set_option maxRecDepth 100000 in
set_option maxHeartbeats 4000000 in
theorem drop_none (w : World) (g : Nat) (q : Lies) (x : Acc) (id : Int) (h : StoreAt w g q x) (hf : Fit x) (hno : hasBox x.boxes id = false) :
    Calls Tryz.prog 30 #[.pointer (some ⟨g, 0, none⟩), .int .i64 id] w (ErrOut w g q (dropP x id)) := by
  have hres : dropP x id = (x, 6) := by
    unfold dropP
    rw [if_pos hno]
  rw [hres]
  obtain ⟨w0, hw0⟩ : ∃ w0 : World, w0 = w.alloc (.cells #[.int .i64 id] 3) := ⟨_, rfl⟩
  have hb0 : Below w.heap.size w w0 := by rw [hw0]; exact below_alloc1 _ _
  have d0 : w0.cell? ⟨w.heap.size, 0, none⟩ = some (.int .i64 id) := by rw [hw0]; exact (Blk.new w 3 #[.int .i64 id]).cell 0
  have hl0 : w.heap.size < w0.heap.size := by rw [hw0, World.size_alloc]; omega
  obtain ⟨B, hBe⟩ : ∃ B, B = w.heap.size := ⟨_, rfl⟩
  rw [← hBe] at d0 hl0
  have hbn : x.boxes.length ≤ 1099511627776 := by have := hf.nb; have := hf.clock; have := hf.cfg.mod; omega
  have h0 := h.later hb0
  have hbc := box_any g q.vb [] x.boxes id w0 h0.cell10 (h0.boxes.reads [] (by simp)) hbn
  have HB0 := Lib.hid hb0
  have HW0 := Lib.hid hw0
  have H := Lib.hid h
  have HFI := Lib.hid hf
  have HBE := Lib.hid hBe
  have hlt := boxOf_neg id x.boxes
  rw [hno] at hlt
  have hlt2 : boxOf id x.boxes < 0 := by simpa using hlt
  generalize boxOf id x.boxes = r at hbc hlt2
  clear hres hb0 hlt hBe h hf h0 hno
  go_enter Tryz.func30, Tryz.ntmps30
  go_upto_region 1 with (fail)
  rw [← HW0.out, ← HBE.out]
  clear hw0
  go_wp2_with (first
    | (go_at_call 74; refine hbc.mono ?_; rintro e w1 ⟨rfl, hb1⟩; have d1 := (hb1.cell (p := ⟨B, 0, none⟩) hl0).trans d0; have hbb := below_then HB0.out hb1; have k10 := (H.out.later hbb).cell10; have k11 := (H.out.later hbb).cell11; have c6 : w1.cell? ⟨g, 6, none⟩ = some (.int .i64 x.cfg.maxMod) := (H.out.later hbb).cells 6; have c9 := (H.out.later hbb).cell9; have HB1 := Lib.hid hbb; clear hb1 hbc hbb)
    | fail)
  go_ret
  exact ⟨rfl, q, Turned.of_below H.out HB1.out⟩

set_option maxRecDepth 100000 in
set_option maxHeartbeats 4000000 in
theorem drop_one (w : World) (g : Nat) (q : Lies) (x : Acc) (id : Int) (h : StoreAt w g q x) (hf : Fit x) (i : Nat) (_ : i < x.boxes.length) (hpl : boxOf id x.boxes = (i : Int)) (hhas : hasBox x.boxes id = true) (h1 : id = 1) :
    Calls Tryz.prog 30 #[.pointer (some ⟨g, 0, none⟩), .int .i64 id] w (ErrOut w g q (dropP x id)) := by
  have hres : dropP x id = (x, 1) := by
    unfold dropP
    rw [if_neg (by rw [hhas]; decide), if_pos h1]
  rw [hres]
  obtain ⟨w0, hw0⟩ : ∃ w0 : World, w0 = w.alloc (.cells #[.int .i64 id] 3) := ⟨_, rfl⟩
  have hb0 : Below w.heap.size w w0 := by rw [hw0]; exact below_alloc1 _ _
  have d0 : w0.cell? ⟨w.heap.size, 0, none⟩ = some (.int .i64 id) := by rw [hw0]; exact (Blk.new w 3 #[.int .i64 id]).cell 0
  have hl0 : w.heap.size < w0.heap.size := by rw [hw0, World.size_alloc]; omega
  obtain ⟨B, hBe⟩ : ∃ B, B = w.heap.size := ⟨_, rfl⟩
  rw [← hBe] at d0 hl0
  have hbn : x.boxes.length ≤ 1099511627776 := by have := hf.nb; have := hf.clock; have := hf.cfg.mod; omega
  have h0 := h.later hb0
  have hbc := box_any g q.vb [] x.boxes id w0 h0.cell10 (h0.boxes.reads [] (by simp)) hbn
  have HB0 := Lib.hid hb0
  have HW0 := Lib.hid hw0
  have H := Lib.hid h
  have HFI := Lib.hid hf
  have HBE := Lib.hid hBe
  rw [hpl] at hbc
  have hi3 : ¬ (i : Int) < 0 := by omega
  have hq : (id == 1) = true := by simpa using h1
  clear hres hb0 hBe h hf h0 h1 hhas hpl
  go_enter Tryz.func30, Tryz.ntmps30
  go_upto_region 1 with (fail)
  rw [← HW0.out, ← HBE.out]
  clear hw0
  go_wp2_with (first
    | (go_at_call 74; refine hbc.mono ?_; rintro e w1 ⟨rfl, hb1⟩; have d1 := (hb1.cell (p := ⟨B, 0, none⟩) hl0).trans d0; have hbb := below_then HB0.out hb1; have k10 := (H.out.later hbb).cell10; have k11 := (H.out.later hbb).cell11; have c6 : w1.cell? ⟨g, 6, none⟩ = some (.int .i64 x.cfg.maxMod) := (H.out.later hbb).cells 6; have c9 := (H.out.later hbb).cell9; have HB1 := Lib.hid hbb; clear hb1 hbc hbb)
    | fail)
  go_ret
  exact ⟨rfl, q, Turned.of_below H.out HB1.out⟩

set_option maxRecDepth 100000 in
set_option maxHeartbeats 4000000 in
theorem drop_busy1 (w : World) (g : Nat) (q : Lies) (x : Acc) (id : Int) (h : StoreAt w g q x) (hf : Fit x) (i : Nat) (_ : i < x.boxes.length) (hpl : boxOf id x.boxes = (i : Int)) (hhas : hasBox x.boxes id = true) (h1 : ¬ id = 1) (hb : x.boxes.any (fun b => decide (b.parent = id)) = true) :
    Calls Tryz.prog 30 #[.pointer (some ⟨g, 0, none⟩), .int .i64 id] w (ErrOut w g q (dropP x id)) := by
  have hres : dropP x id = (x, 10) := by
    unfold dropP
    rw [if_neg (by rw [hhas]; decide), if_neg h1, if_pos (by rw [hb]; rfl)]
  rw [hres]
  obtain ⟨w0, hw0⟩ : ∃ w0 : World, w0 = w.alloc (.cells #[.int .i64 id] 3) := ⟨_, rfl⟩
  have hb0 : Below w.heap.size w w0 := by rw [hw0]; exact below_alloc1 _ _
  have d0 : w0.cell? ⟨w.heap.size, 0, none⟩ = some (.int .i64 id) := by rw [hw0]; exact (Blk.new w 3 #[.int .i64 id]).cell 0
  have hl0 : w.heap.size < w0.heap.size := by rw [hw0, World.size_alloc]; omega
  obtain ⟨B, hBe⟩ : ∃ B, B = w.heap.size := ⟨_, rfl⟩
  rw [← hBe] at d0 hl0
  have hbn : x.boxes.length ≤ 1099511627776 := by have := hf.nb; have := hf.clock; have := hf.cfg.mod; omega
  have h0 := h.later hb0
  have hbc := box_any g q.vb [] x.boxes id w0 h0.cell10 (h0.boxes.reads [] (by simp)) hbn
  have HB0 := Lib.hid hb0
  have HW0 := Lib.hid hw0
  have H := Lib.hid h
  have HFI := Lib.hid hf
  have HBE := Lib.hid hBe
  rw [hpl] at hbc
  have hi3 : ¬ (i : Int) < 0 := by omega
  obtain ⟨Ab, cb, hvb, _, _⟩ := h.boxes.form
  have HVB := Lib.hid hvb
  obtain ⟨Am, cm, hvm, _, _⟩ := h.mails.form
  have HVM := Lib.hid hvm
  have hq : (id == 1) = false := by simpa using h1
  clear hres hb0 hBe h hf h0 h1 hhas hpl hvb hvm
  go_enter Tryz.func30, Tryz.ntmps30
  go_upto_region 1 with (fail)
  rw [← HW0.out, ← HBE.out]
  clear hw0
  go_wp2_with (first
    | (go_at_call 74; refine hbc.mono ?_; rintro e w1 ⟨rfl, hb1⟩; have d1 := (hb1.cell (p := ⟨B, 0, none⟩) hl0).trans d0; have hbb := below_then HB0.out hb1; have k10 := (H.out.later hbb).cell10; have k11 := (H.out.later hbb).cell11; have c6 : w1.cell? ⟨g, 6, none⟩ = some (.int .i64 x.cfg.maxMod) := (H.out.later hbb).cells 6; have c9 := (H.out.later hbb).cell9; have HB1 := Lib.hid hbb; clear hb1 hbc hbb; have hcb := hasB_any q.vb [] x.boxes (fun b => decide (b.parent = id)) 77 #[.pointer (some ⟨B, 0, none⟩)] (enters_of Tryz.func77 (by kernel_rfl) rfl) w1 ((H.out.later HB1.out).boxes.reads [] (by simp)) hbn (fun W hb y _ => parPred_any id B w1 W y d1 hb); rw [hb] at hcb; rw [HVB.out] at hcb k10; rw [HVM.out] at k11)
    | (go_at_call 76; refine hcb.mono ?_; rintro e w2 ⟨rfl, hb2⟩; have HB2 := Lib.hid (below_then HB1.out hb2); clear hcb hb2)
    | fail)
  go_ret
  exact ⟨rfl, q, Turned.of_below H.out HB2.out⟩

theorem dropMails_any {w : World} {g : Nat} {q : Lies} {x : Acc} (h : StoreAt w g q x) (hf : Fit x) (id : Int) (B : Nat) (hB : w.cell? ⟨B, 0, none⟩ = some (.int .i64 id)) :
    Calls Tryz.prog 72 #[q.vm, .func (.func 78) #[] #[.pointer (some ⟨B, 0, none⟩)]] w fun e w' => e = .returned (.bool (x.mails.any fun m => holdsP m id)) ∧ Below w.heap.size w w' := by
  have hl := h.msLen
  have h1 := hasM_any q.vm [] q.ms (fun y => holdsP y.p id) 78 #[.pointer (some ⟨B, 0, none⟩)] (enters_of Tryz.func78 (by kernel_rfl) rfl) w (by
    rw [hl]
    exact h.mails.reads [] (by simp)) (by rw [hl]; have := hf.nm; have := hf.clock; have := hf.cfg.mod; omega) (fun W hb y hy => dropPred2_any id B w W y hB hb (((h.parts y hy).mem.below hb).sub (fun _ _ _ hm => by cases hm)) (by have := hf.nmem (m := y.p) (by rw [← h.same]; exact List.mem_map_of_mem hy); omega))
  have h3 : q.ms.any (fun y => holdsP y.p id) = x.mails.any fun m => holdsP m id := by
    have h4 : x.mails.any (fun y => holdsP y id) = (q.ms.map (·.p)).any (fun y => holdsP y id) := by rw [h.same]
    rw [h4, List.any_map]
    rfl
  rw [h3] at h1
  exact h1

set_option maxRecDepth 100000 in
set_option maxHeartbeats 4000000 in
theorem drop_busy2 (w : World) (g : Nat) (q : Lies) (x : Acc) (id : Int) (h : StoreAt w g q x) (hf : Fit x) (i : Nat) (_ : i < x.boxes.length) (hpl : boxOf id x.boxes = (i : Int)) (hhas : hasBox x.boxes id = true) (h1 : ¬ id = 1) (hb : x.boxes.any (fun b => decide (b.parent = id)) = false) (hm : (x.mails.any fun m => holdsP m id) = true) :
    Calls Tryz.prog 30 #[.pointer (some ⟨g, 0, none⟩), .int .i64 id] w (ErrOut w g q (dropP x id)) := by
  have hres : dropP x id = (x, 10) := by
    unfold dropP
    rw [if_neg (by rw [hhas]; decide), if_neg h1, if_pos (by rw [hb, hm]; rfl)]
  rw [hres]
  obtain ⟨w0, hw0⟩ : ∃ w0 : World, w0 = w.alloc (.cells #[.int .i64 id] 3) := ⟨_, rfl⟩
  have hb0 : Below w.heap.size w w0 := by rw [hw0]; exact below_alloc1 _ _
  have d0 : w0.cell? ⟨w.heap.size, 0, none⟩ = some (.int .i64 id) := by rw [hw0]; exact (Blk.new w 3 #[.int .i64 id]).cell 0
  have hl0 : w.heap.size < w0.heap.size := by rw [hw0, World.size_alloc]; omega
  obtain ⟨B, hBe⟩ : ∃ B, B = w.heap.size := ⟨_, rfl⟩
  rw [← hBe] at d0 hl0
  have hbn : x.boxes.length ≤ 1099511627776 := by have := hf.nb; have := hf.clock; have := hf.cfg.mod; omega
  have h0 := h.later hb0
  have hbc := box_any g q.vb [] x.boxes id w0 h0.cell10 (h0.boxes.reads [] (by simp)) hbn
  have HB0 := Lib.hid hb0
  have HW0 := Lib.hid hw0
  have H := Lib.hid h
  have HFI := Lib.hid hf
  have HBE := Lib.hid hBe
  rw [hpl] at hbc
  have hi3 : ¬ (i : Int) < 0 := by omega
  obtain ⟨Ab, cb, hvb, _, _⟩ := h.boxes.form
  have HVB := Lib.hid hvb
  obtain ⟨Am, cm, hvm, _, _⟩ := h.mails.form
  have HVM := Lib.hid hvm
  have hq : (id == 1) = false := by simpa using h1
  clear hres hb0 hBe h hf h0 h1 hhas hpl hvb hvm
  go_enter Tryz.func30, Tryz.ntmps30
  go_upto_region 1 with (fail)
  rw [← HW0.out, ← HBE.out]
  clear hw0
  go_wp2_with (first
    | (go_at_call 74; refine hbc.mono ?_; rintro e w1 ⟨rfl, hb1⟩; have d1 := (hb1.cell (p := ⟨B, 0, none⟩) hl0).trans d0; have hbb := below_then HB0.out hb1; have k10 := (H.out.later hbb).cell10; have k11 := (H.out.later hbb).cell11; have c6 : w1.cell? ⟨g, 6, none⟩ = some (.int .i64 x.cfg.maxMod) := (H.out.later hbb).cells 6; have c9 := (H.out.later hbb).cell9; have HB1 := Lib.hid hbb; clear hb1 hbc hbb; have hcb := hasB_any q.vb [] x.boxes (fun b => decide (b.parent = id)) 77 #[.pointer (some ⟨B, 0, none⟩)] (enters_of Tryz.func77 (by kernel_rfl) rfl) w1 ((H.out.later HB1.out).boxes.reads [] (by simp)) hbn (fun W hb y _ => parPred_any id B w1 W y d1 hb); rw [hb] at hcb; rw [HVB.out] at hcb k10; rw [HVM.out] at k11)
    | (go_at_call 76; refine hcb.mono ?_; rintro e w2 ⟨rfl, hb2⟩; have HB2 := Lib.hid (below_then HB1.out hb2); have d2 := (hb2.cell (p := ⟨B, 0, none⟩) (World.block_lt_of_cell? _ _ d1)).trans d1; have n11 := (H.out.later HB2.out).cell11; rw [HVM.out] at n11; have n6 : w2.cell? ⟨g, 6, none⟩ = some (.int .i64 x.cfg.maxMod) := (H.out.later HB2.out).cells 6; have n9 := (H.out.later HB2.out).cell9; have hcm := dropMails_any (H.out.later HB2.out) HFI.out id B d2; rw [hm, HVM.out] at hcm; clear hcb hb2)
    | (go_at_call 72; refine hcm.mono ?_; rintro e w3 ⟨rfl, hb3⟩; have HB3 := Lib.hid (below_then HB2.out hb3); clear hcm hb3)
    | fail)
  go_ret
  exact ⟨rfl, q, Turned.of_below H.out HB3.out⟩

set_option maxRecDepth 100000 in
set_option maxHeartbeats 4000000 in
theorem drop_ends (w : World) (g : Nat) (q : Lies) (x : Acc) (id : Int) (h : StoreAt w g q x) (hf : Fit x) (i : Nat) (_ : i < x.boxes.length) (hpl : boxOf id x.boxes = (i : Int)) (hhas : hasBox x.boxes id = true) (h1 : ¬ id = 1) (hb : x.boxes.any (fun b => decide (b.parent = id)) = false) (hm : (x.mails.any fun m => holdsP m id) = false) (hen : x.cfg.maxMod ≤ x.clock) :
    Calls Tryz.prog 30 #[.pointer (some ⟨g, 0, none⟩), .int .i64 id] w (ErrOut w g q (dropP x id)) := by
  have hres : dropP x id = (x, 11) := by
    unfold dropP
    rw [if_neg (by rw [hhas]; decide), if_neg h1, if_neg (by rw [hb, hm]; decide), if_pos (by simp [Acc.ends, hen])]
  rw [hres]
  obtain ⟨w0, hw0⟩ : ∃ w0 : World, w0 = w.alloc (.cells #[.int .i64 id] 3) := ⟨_, rfl⟩
  have hb0 : Below w.heap.size w w0 := by rw [hw0]; exact below_alloc1 _ _
  have d0 : w0.cell? ⟨w.heap.size, 0, none⟩ = some (.int .i64 id) := by rw [hw0]; exact (Blk.new w 3 #[.int .i64 id]).cell 0
  have hl0 : w.heap.size < w0.heap.size := by rw [hw0, World.size_alloc]; omega
  obtain ⟨B, hBe⟩ : ∃ B, B = w.heap.size := ⟨_, rfl⟩
  rw [← hBe] at d0 hl0
  have hbn : x.boxes.length ≤ 1099511627776 := by have := hf.nb; have := hf.clock; have := hf.cfg.mod; omega
  have h0 := h.later hb0
  have hbc := box_any g q.vb [] x.boxes id w0 h0.cell10 (h0.boxes.reads [] (by simp)) hbn
  have HB0 := Lib.hid hb0
  have HW0 := Lib.hid hw0
  have H := Lib.hid h
  have HFI := Lib.hid hf
  have HBE := Lib.hid hBe
  rw [hpl] at hbc
  have hi3 : ¬ (i : Int) < 0 := by omega
  obtain ⟨Ab, cb, hvb, _, _⟩ := h.boxes.form
  have HVB := Lib.hid hvb
  obtain ⟨Am, cm, hvm, _, _⟩ := h.mails.form
  have HVM := Lib.hid hvm
  have hq : (id == 1) = false := by simpa using h1
  clear hres hb0 hBe h hf h0 h1 hhas hpl hvb hvm
  go_enter Tryz.func30, Tryz.ntmps30
  go_upto_region 1 with (fail)
  rw [← HW0.out, ← HBE.out]
  clear hw0
  go_wp2_with (first
    | (go_at_call 74; refine hbc.mono ?_; rintro e w1 ⟨rfl, hb1⟩; have d1 := (hb1.cell (p := ⟨B, 0, none⟩) hl0).trans d0; have hbb := below_then HB0.out hb1; have k10 := (H.out.later hbb).cell10; have k11 := (H.out.later hbb).cell11; have c6 : w1.cell? ⟨g, 6, none⟩ = some (.int .i64 x.cfg.maxMod) := (H.out.later hbb).cells 6; have c9 := (H.out.later hbb).cell9; have HB1 := Lib.hid hbb; clear hb1 hbc hbb; have hcb := hasB_any q.vb [] x.boxes (fun b => decide (b.parent = id)) 77 #[.pointer (some ⟨B, 0, none⟩)] (enters_of Tryz.func77 (by kernel_rfl) rfl) w1 ((H.out.later HB1.out).boxes.reads [] (by simp)) hbn (fun W hb y _ => parPred_any id B w1 W y d1 hb); rw [hb] at hcb; rw [HVB.out] at hcb k10; rw [HVM.out] at k11)
    | (go_at_call 76; refine hcb.mono ?_; rintro e w2 ⟨rfl, hb2⟩; have HB2 := Lib.hid (below_then HB1.out hb2); have d2 := (hb2.cell (p := ⟨B, 0, none⟩) (World.block_lt_of_cell? _ _ d1)).trans d1; have n11 := (H.out.later HB2.out).cell11; rw [HVM.out] at n11; have n6 : w2.cell? ⟨g, 6, none⟩ = some (.int .i64 x.cfg.maxMod) := (H.out.later HB2.out).cells 6; have n9 := (H.out.later HB2.out).cell9; have hcm := dropMails_any (H.out.later HB2.out) HFI.out id B d2; rw [hm, HVM.out] at hcm; clear hcb hb2)
    | (go_at_call 72; refine hcm.mono ?_; rintro e w3 ⟨rfl, hb3⟩; have HB3 := Lib.hid (below_then HB2.out hb3); have o6 : w3.cell? ⟨g, 6, none⟩ = some (.int .i64 x.cfg.maxMod) := (H.out.later HB3.out).cells 6; have o9 := (H.out.later HB3.out).cell9; have d3 := (hb3.cell (p := ⟨B, 0, none⟩) (World.block_lt_of_cell? _ _ d2)).trans d2;  clear hcm hb3)
    | (go_at_call 53; refine (ends_any g x.clock x.cfg.maxMod _ ((cell_heap (w := w3) (by rfl) _).trans o9) ((cell_heap (w := w3) (by rfl) _).trans o6)).mono ?_; rintro e w4 ⟨rfl, ne, rfl⟩)
    | fail)
  go_ret
  exact ⟨rfl, q, (Turned.of_below H.out HB3.out).then_below (below_drewN' (Below.refl _ _) _)⟩

set_option maxRecDepth 100000 in
set_option maxHeartbeats 4000000 in
theorem drop_ok (w : World) (g : Nat) (q : Lies) (x : Acc) (id : Int) (h : StoreAt w g q x) (hf : Fit x) (i : Nat) (hi : i < x.boxes.length) (hpl : boxOf id x.boxes = (i : Int)) (hhas : hasBox x.boxes id = true) (h1 : ¬ id = 1) (hb : x.boxes.any (fun b => decide (b.parent = id)) = false) (hm : (x.mails.any fun m => holdsP m id) = false) (hen : ¬ x.cfg.maxMod ≤ x.clock) :
    Calls Tryz.prog 30 #[.pointer (some ⟨g, 0, none⟩), .int .i64 id] w (ErrOut w g q (dropP x id)) := by
  obtain ⟨rr, hrr⟩ : ∃ rr, dropP x id = rr := ⟨_, rfl⟩
  have hres : rr = ({ x with clock := x.clock + 1, boxes := x.boxes.eraseIdx i, log := x.log.add [⟨x.clock + 1, 1, id, 3⟩] }, 0) := by
    rw [← hrr]
    unfold dropP
    rw [if_neg (by rw [hhas]; decide), if_neg h1, if_neg (by rw [hb, hm]; decide), if_neg (by simp [Acc.ends]; omega), hpl]
    rfl
  rw [hrr]
  have HRES := Lib.hid hres
  obtain ⟨w0, hw0⟩ : ∃ w0 : World, w0 = w.alloc (.cells #[.int .i64 id] 3) := ⟨_, rfl⟩
  have hb0 : Below w.heap.size w w0 := by rw [hw0]; exact below_alloc1 _ _
  have d0 : w0.cell? ⟨w.heap.size, 0, none⟩ = some (.int .i64 id) := by rw [hw0]; exact (Blk.new w 3 #[.int .i64 id]).cell 0
  have hl0 : w.heap.size < w0.heap.size := by rw [hw0, World.size_alloc]; omega
  obtain ⟨B, hBe⟩ : ∃ B, B = w.heap.size := ⟨_, rfl⟩
  rw [← hBe] at d0 hl0
  have hbn : x.boxes.length ≤ 1099511627776 := by have := hf.nb; have := hf.clock; have := hf.cfg.mod; omega
  have h0 := h.later hb0
  have hbc := box_any g q.vb [] x.boxes id w0 h0.cell10 (h0.boxes.reads [] (by simp)) hbn
  have HB0 := Lib.hid hb0
  have HW0 := Lib.hid hw0
  have H := Lib.hid h
  have HFI := Lib.hid hf
  have HBE := Lib.hid hBe
  rw [hpl] at hbc
  have hi3 : ¬ (i : Int) < 0 := by omega
  obtain ⟨Ab, cb, hvb, _, _⟩ := h.boxes.form
  have HVB := Lib.hid hvb
  obtain ⟨Am, cm, hvm, _, _⟩ := h.mails.form
  have HVM := Lib.hid hvm
  have hq : (id == 1) = false := by simpa using h1
  have hcl := hf.clock
  have hmd := hf.cfg.mod
  have hiw : IntKind.i64.wrap ((i : Int) + 1) = (i : Int) + 1 := IntWalk.i64_in _ (by omega)
  clear hres hrr hb0 hBe h hf h0 h1 hhas hpl hvb hvm
  go_enter Tryz.func30, Tryz.ntmps30
  go_upto_region 1 with (fail)
  rw [← HW0.out, ← HBE.out]
  clear hw0
  go_upto_region 14 with (first
    | (go_at_call 74; refine hbc.mono ?_; rintro e w1 ⟨rfl, hb1⟩; have d1 := (hb1.cell (p := ⟨B, 0, none⟩) hl0).trans d0; have hbb := below_then HB0.out hb1; have k10 := (H.out.later hbb).cell10; have k11 := (H.out.later hbb).cell11; have c6 : w1.cell? ⟨g, 6, none⟩ = some (.int .i64 x.cfg.maxMod) := (H.out.later hbb).cells 6; have c9 := (H.out.later hbb).cell9; have HB1 := Lib.hid hbb; clear hb1 hbc hbb; have hcb := hasB_any q.vb [] x.boxes (fun b => decide (b.parent = id)) 77 #[.pointer (some ⟨B, 0, none⟩)] (enters_of Tryz.func77 (by kernel_rfl) rfl) w1 ((H.out.later HB1.out).boxes.reads [] (by simp)) hbn (fun W hb y _ => parPred_any id B w1 W y d1 hb); rw [hb] at hcb; rw [HVB.out] at hcb k10; rw [HVM.out] at k11)
    | (go_at_call 76; refine hcb.mono ?_; rintro e w2 ⟨rfl, hb2⟩; have HB2 := Lib.hid (below_then HB1.out hb2); have d2 := (hb2.cell (p := ⟨B, 0, none⟩) (World.block_lt_of_cell? _ _ d1)).trans d1; have n11 := (H.out.later HB2.out).cell11; rw [HVM.out] at n11; have n6 : w2.cell? ⟨g, 6, none⟩ = some (.int .i64 x.cfg.maxMod) := (H.out.later HB2.out).cells 6; have n9 := (H.out.later HB2.out).cell9; have hcm := dropMails_any (H.out.later HB2.out) HFI.out id B d2; rw [hm, HVM.out] at hcm; clear hcb hb2)
    | (go_at_call 72; refine hcm.mono ?_; rintro e w3 ⟨rfl, hb3⟩; have HB3 := Lib.hid (below_then HB2.out hb3); have o6 : w3.cell? ⟨g, 6, none⟩ = some (.int .i64 x.cfg.maxMod) := (H.out.later HB3.out).cells 6; have o9 := (H.out.later HB3.out).cell9; have d3 := (hb3.cell (p := ⟨B, 0, none⟩) (World.block_lt_of_cell? _ _ d2)).trans d2;  clear hcm hb3)
    | (go_at_call 53; refine (ends_any g x.clock x.cfg.maxMod _ ((cell_heap (w := w3) (by rfl) _).trans o9) ((cell_heap (w := w3) (by rfl) _).trans o6)).mono ?_; rintro e w4 ⟨rfl, ne, rfl⟩; have hb5 := (below_then HB3.out (below_drewN' (Below.refl w3.heap.size w3) ne)); have HB5 := Lib.hid hb5; have hT5 := Lib.hid (H.out.later hb5); have p10 := hT5.out.cell10; rw [HVB.out] at p10; have pf := hT5.out.frozen 10; have hdel := delB_any (w3.drewN ne) _ q.hb _ _ (by have h1 := hT5.out.boxes; rw [HVB.out] at h1; exact h1) (flatG_one encB_one x.boxes) hbn i hi; have d4 : (w3.drewN ne).cell? ⟨B, 0, none⟩ = some (.int .i64 id) := d3; have hgh : g ∉ q.hb.toList := (fun hm => hT5.out.apart.hb (by simpa using hm)); have hBh : B ∉ q.hb.toList := (fun hm => by have h1 := H.out.lt B (Lies.own_hb (by simpa using hm)); rw [HBE.out] at h1; omega); have hgl5 : g < (w3.drewN ne).heap.size := hT5.out.blk.lt; have hBl5 : B < (w3.drewN ne).heap.size := World.block_lt_of_cell? _ _ d4; clear hb5)
    | (go_at_call 80; refine hdel.mono ?_; rintro e w8 ⟨v8, rfl, hs8, hc8⟩; have e10 : w8.cell? ⟨g, 10, none⟩ = some (.slice Ab x.boxes.length cb) := (hc8.cell (p := ⟨g, 10, none⟩) hgl5 hgh).trans p10; have ef : w8.frozen? ⟨g, 10, none⟩ = false := (hc8.frozen (p := ⟨g, 10, none⟩) hgl5 hgh).trans pf; have d8 := (hc8.cell (p := ⟨B, 0, none⟩) hBl5 hBh).trans d4; obtain ⟨A8, c8, rfl, _, _⟩ := hs8.form; have HS8 := Lib.hid hs8; have HC8 := Lib.hid hc8; clear hdel hs8 hc8)
    | fail)
  obtain ⟨wf, hwf⟩ : ∃ wf : World, wf = w8.setCell ⟨g, 10, none⟩ (.slice A8 (x.boxes.length - 1) c8) := ⟨_, rfl⟩
  rw [← hwf]
  have tcut := hT5.out.cutBox (v' := .slice A8 (x.boxes.length - 1) c8) i hi HS8.out HC8.out
  rw [← hwf] at tcut
  obtain ⟨q7, hq7⟩ : ∃ q7 : Lies, q7 = { q with vb := .slice A8 (x.boxes.length - 1) c8 } := ⟨_, rfl⟩
  rw [← hq7] at tcut
  have hTf : Turned w wf g q { x with boxes := x.boxes.eraseIdx i } q7 := (Turned.of_below H.out HB5.out).trans tcut
  have df : wf.cell? ⟨B, 0, none⟩ = some (.int .i64 id) := by
    rw [hwf, cell_far _ _ _ _ (by
      have h1 := H.out.blk.lt
      have h2 := HBE.out
      show B ≠ g
      omega)]
    exact d8
  have HTF := Lib.hid hTf
  clear hwf tcut hq7 hTf e10 ef d8 d4 d3 d2 d1 d0 p10 pf c6 c9 n6 n9 n11 o6 o9 k10 k11 hgl5 hBl5 HS8 HC8
  have c12 : wf.cell? ⟨g, 12, none⟩ = some (.pointer (some ⟨q7.gl, 0, none⟩)) := HTF.out.at_.cell12
  have hstep : ∀ W : World, W.heap = wf.heap → W.os = wf.os → W.tape = wf.tape → W.output = wf.output → Calls Tryz.prog 56 #[.pointer (some ⟨g, 0, none⟩)] W fun e w' => e = .returned (.int .i64 (x.clock + 1)) ∧ Turned w w' g q { x with clock := x.clock + 1, boxes := x.boxes.eraseIdx i } q7 ∧ w'.cell? ⟨B, 0, none⟩ = some (.int .i64 id) := fun W e0 e1 e2 e3 => by
    have hb : Below wf.heap.size wf W := ⟨e1, e2, e3, Nat.le_of_eq (by rw [e0]), fun _ _ => by rw [e0]⟩
    have h1 := HTF.out.at_.later hb
    refine (step_any g x.clock W h1.cell9 (h1.frozen 9) (by omega)).mono ?_
    rintro e w' ⟨rfl, rfl⟩
    refine ⟨rfl, (HTF.out.then_below' hb).trans (h1.setStruct 9 (.int .i64 (x.clock + 1)) { x with clock := x.clock + 1, boxes := x.boxes.eraseIdx i } rfl rfl rfl rfl), ?_⟩
    rw [cell_far _ _ _ _ (by
      have h1 := H.out.blk.lt
      have h2 := HBE.out
      show B ≠ g
      omega), show W.cell? ⟨B, 0, none⟩ = wf.cell? ⟨B, 0, none⟩ from World.cell?_of_block (by rw [e0])]
    exact df
  have HSTEP := Lib.hid hstep
  clear hstep
  go_cut [] (fun wx => ∃ q'', Hid (Turned w wx g q { x with clock := x.clock + 1, boxes := x.boxes.eraseIdx i, log := x.log.add [⟨x.clock + 1, 1, id, 3⟩] } q''))
  case first =>
    go_region_law (first
      | (refine step_call (by rfl) (by rfl) (enters_of Tryz.func56 (by kernel_rfl) rfl) (by first | (simp [Act.eval]; done) | simp [Act.eval, Act.put]) (HSTEP.out _ rfl rfl rfl rfl) ?_; rintro e w9 ⟨rfl, ht9, d9⟩; refine ⟨_, rfl, ?_⟩; have z12 : w9.cell? ⟨g, 12, none⟩ = some (.pointer (some ⟨q7.gl, 0, none⟩)) := ht9.at_.cell12; have z12a := (World.cell?_alloc_lt w9 (.cells #[.int .i64 (x.clock + 1), .int .i64 1, .int .i64 id, .int .i64 3] 117) ⟨g, 12, none⟩ ht9.at_.blk.lt).trans z12; have hadd := fun W hb => addOne (W := W) ht9.at_ HFI.out.log HFI.out.cfg.log ⟨x.clock + 1, 1, id, 3⟩ hb; have HADD := Lib.hid hadd; have HT9 := Lib.hid ht9; clear hadd ht9)
      | (refine step_call (by rfl) (by rfl) (enters_of Tryz.func44 (by kernel_rfl) rfl) (by first | (simp [Act.eval]; done) | simp [Act.eval, Act.put]) (HADD.out _ ⟨rfl, rfl, rfl, Nat.le_refl _, fun _ _ => rfl⟩) ?_; rintro e w10 ⟨rfl, q10, ht10⟩; refine ⟨_, rfl, ?_⟩; have HT10 := Lib.hid ht10; clear ht10)
      | fail)
    all_goals
      go_wp2_with fail
      go_meet
      exact ⟨q10, Lib.hid (HT9.out.trans HT10.out)⟩
  case rest =>
    obtain ⟨q'', HT11⟩ := hcut
    obtain ⟨wz, rfl⟩ : ∃ wz : World, wz = wc := ⟨_, rfl⟩
    have HFIN : Hid (ErrOut w g q rr (.returned (.int .i64 0)) wz) := Lib.hid (by
      rw [HRES.out]
      exact ⟨rfl, q'', HT11.out⟩)
    clear HT11 c12 df
    go_wp2_with fail
    go_ret
    exact HFIN.out

theorem drop_said (w : World) (g : Nat) (q : Lies) (x : Acc) (id : Int) (h : StoreAt w g q x) (hf : Fit x) :
    Calls Tryz.prog 30 #[.pointer (some ⟨g, 0, none⟩), .int .i64 id] w (ErrOut w g q (dropP x id)) := by
  cases h0 : hasBox x.boxes id with
  | false => exact drop_none w g q x id h hf h0
  | true =>
    obtain ⟨i, hi, hpl, _, _, _, _⟩ := box_at ((hasBox_iff x.boxes id).1 h0)
    by_cases h1 : id = 1
    · exact drop_one w g q x id h hf i hi hpl h0 h1
    cases h2 : x.boxes.any (fun b => decide (b.parent = id)) with
    | true => exact drop_busy1 w g q x id h hf i hi hpl h0 h1 h2
    | false =>
      cases h3 : (x.mails.any fun m => holdsP m id) with
      | true => exact drop_busy2 w g q x id h hf i hi hpl h0 h1 h2 h3
      | false =>
        by_cases h4 : x.cfg.maxMod ≤ x.clock
        · exact drop_ends w g q x id h hf i hi hpl h0 h1 h2 h3 h4
        · exact drop_ok w g q x id h hf i hi hpl h0 h1 h2 h3 h4

end Go.Proofs.YtmbibhphpjmboaaGreatDoor

namespace Go.Proofs.YtmbibhphpjmboaaGreatDoor
open Go.Shelf Go.RowKit
attribute [local go_sem ↓] Go.wp_at_zero Go.wp_at_succ

theorem findPred_any (id : Int) (B : Nat) (w W : World) (x : BoxP) (hB : w.cell? ⟨B, 0, none⟩ = some (.int .i64 id)) (hb : Below w.heap.size w W) :
    Calls Tryz.prog 167 (#[.agg (encB x).toArray] ++ #[.pointer (some ⟨B, 0, none⟩)]) W fun e w' => e = .returned (.bool (decide (x.id = id))) ∧ Below w.heap.size w w' := by
  have hlt := World.block_lt_of_cell? _ _ hB
  have hc := (hb.cell (p := ⟨B, 0, none⟩) hlt).trans hB
  have hlt2 : B < W.heap.size := Nat.lt_of_lt_of_le hlt hb.size
  obtain ⟨i, nm, pa, va, ne, mo⟩ := x
  show Calls Tryz.prog 167 #[.agg #[.int .i64 i, .string ⟨nm.toArray⟩, .int .i64 pa, .int .i64 va, .int .i64 ne, .int .i64 mo], .pointer (some ⟨B, 0, none⟩)] W _
  have hc2 : (W.alloc (.cells #[.int .i64 i, .string ⟨nm.toArray⟩, .int .i64 pa, .int .i64 va, .int .i64 ne, .int .i64 mo] 52)).cell? ⟨B, 0, none⟩ = some (.int .i64 id) := (World.cell?_alloc_lt W _ _ hlt2).trans hc
  have HB := Lib.hid hb
  clear hb hc hB
  by_cases hi : i = id
  · subst hi
    simp only [decide_true]
    go_enter Tryz.func167, Tryz.ntmps167
    go_wp2
    go_ret
    exact ⟨rfl, HB.out.alloc HB.out.size _⟩
  · have e : (i == id) = false := by simpa using hi
    have e2 : decide (i = id) = false := decide_eq_false hi
    simp only [e2]
    clear e2 hi
    go_enter Tryz.func167, Tryz.ntmps167
    go_wp2
    go_ret
    exact ⟨rfl, HB.out.alloc HB.out.size _⟩
theorem find_any (v : Value) (S : List Nat) (l : List BoxP) (id : Int) (w : World) (hr : RdS w S 6 v l.length (flatG encB l)) (hn : l.length ≤ 1099511627776) :
    Calls Tryz.prog 130 #[v, .int .i64 id] w fun e w' => e = .returned (.int .i64 (boxOf id l)) ∧ Below w.heap.size w w' := by
  have hw1 : (w.alloc (.cells #[.int .i64 id] 3)).cell? ⟨w.heap.size, 0, none⟩ = some (.int .i64 id) := (World.cell?_alloc_at _ _ _ _ rfl).trans rfl
  have eg : ∀ args W, (callFunc 167 args).run Tryz.prog W = .ok (.enter 167 args) W := enters_of Tryz.func167 (by kernel_rfl) rfl
  have hc := idxB_any v S l (fun b => decide (b.id = id)) 167 #[.pointer (some ⟨w.heap.size, 0, none⟩)] eg (w.alloc (.cells #[.int .i64 id] 3)) (hr.below ((Below.refl _ w).alloc (Nat.le_refl _) _)) hn
    (fun W hb x _ => findPred_any id _ _ W x hw1 hb)
  have hc2 : Calls Tryz.prog 128 #[v, .func (.func 167) #[] #[.pointer (some ⟨w.heap.size, 0, none⟩)]] (w.alloc (.cells #[.int .i64 id] 3)) fun e w' => e = .returned (.int .i64 (boxOf id l)) ∧ Below (w.alloc (.cells #[.int .i64 id] 3)).heap.size (w.alloc (.cells #[.int .i64 id] 3)) w' := hc
  generalize boxOf id l = r at hc2
  clear hc eg hr hw1 hn
  go_enter Tryz.func130, Tryz.ntmps130
  go_wp2_with (first
    | (go_at_call 128; refine hc2.mono ?_; rintro e w2 ⟨rfl, hb⟩)
    | fail)
  go_ret
  exact ⟨rfl, ((Below.refl _ _).alloc (Nat.le_refl _) _).trans (hb.mono (by simp))⟩

set_option maxRecDepth 100000 in
set_option maxHeartbeats 1000000 in
theorem under_any (v : Value) (S : List Nat) (l : List BoxP) (id top : Int) (w : World) (hr : RdS w S 6 v l.length (flatG encB l)) (hn : l.length ≤ 1099511627775) :
    Calls Tryz.prog 75 #[v, .int .i64 id, .int .i64 top] w fun e w' => e = .returned (.bool (underP l top (l.length + 1) id)) ∧ Below w.heap.size w w' := by
  obtain ⟨b, hb⟩ : ∃ b, underP l top (l.length + 1) id = b := ⟨_, rfl⟩
  rw [hb]
  obtain ⟨A, cap, hv, _, _⟩ := hr.form
  obtain ⟨n, hnn⟩ : ∃ n, l.length = n := ⟨_, rfl⟩
  rw [hnn] at hv hb
  have HR := Lib.hid hr
  have HB0 := Lib.hid hb
  have HV := Lib.hid hv
  have HNN := Lib.hid hnn
  have hw1 : IntKind.i64.wrap ((n : Int) + 1) = (n : Int) + 1 := IntWalk.i64_in _ (by omega)
  rw [hv]
  have hnb : n ≤ 1099511627775 := by omega
  clear hr hb hv hnn
  go_enter Tryz.func75, Tryz.ntmps75
  go_wp2_with fail
  go_loopw [1, 11] (fun c i wr => ∃ (k : Nat) (cur : Int), k ≤ n + 1 ∧ i = .int .i64 k ∧ c = .int .i64 cur ∧ Hid (Below w.heap.size w wr) ∧ Hid (underP l top (n + 1 - k) cur = b)) (fun _ i _ => n + 1 - (intOf i).toNat)
  case atStart => exact ⟨0, id, Nat.zero_le _, rfl, rfl, Lib.hid (Below.refl _ _), HB0⟩
  case round =>
    obtain ⟨k, cur, hk, rfl, rfl, HU, HT⟩ := hrel
    by_cases hlt : k < n + 1
    · have hk1 : (k : Int) < (n : Int) + 1 := by omega
      obtain ⟨f, hf⟩ : ∃ f, n + 1 - k = f + 1 := ⟨n - k, by omega⟩
      have hu := HT.out
      rw [hf, underP] at hu
      by_cases hc : cur = top
      · rw [if_pos hc] at hu
        have hq : (cur == top) = true := by simpa using hc
        have HB := Lib.hid hu
        clear hu hc
        go_wp2_with fail
        go_ret
        exact ⟨ret_bool HB.out, HU.out⟩
      · rw [if_neg hc] at hu
        have hq : (cur == top) = false := by simpa using hc
        have hfi := find_any (.slice A n cap) [] l cur wr (by rw [← HV.out]; exact (HR.out.below HU.out).sub (fun _ _ _ hm => by cases hm)) (by omega)
        by_cases hin : cur ∈ ids l
        · obtain ⟨i, hi, h1, _, _, _, h5⟩ := box_at hin
          rw [h5] at hu
          simp only at hu
          rw [h1] at hfi
          obtain ⟨bb, off, cap', hv', _, _, hblt, _, hat⟩ := HR.out.at_ (by omega)
          have hv2 := HV.out.symm.trans hv'
          have hA : A = some ⟨bb, off, none⟩ := (Value.slice.inj hv2).1
          subst hA
          have e2 : wr.cell? ⟨bb, off + i * 6 + 2, none⟩ = some (.int .i64 l[i].parent) := by
            refine (HU.out.cell hblt).trans ?_
            have h1 := hat (i * 6 + 2) (by omega)
            rw [flatG_get encB_length l i 2 hi (by omega), ← Nat.add_assoc] at h1
            exact h1
          obtain ⟨pr, hpr⟩ : ∃ pr, l[i].parent = pr := ⟨_, rfl⟩
          rw [hpr] at e2 hu
          have hi1 : (i : Int) < (n : Int) := by rw [HNN.out] at hi; omega
          have hi3 : ¬ (i : Int) < 0 := by omega
          have hi2 : (0 : Int) ≤ (i : Int) := by omega
          have HB : Hid (underP l top (n + 1 - (k + 1)) pr = b) := Lib.hid (by rw [show n + 1 - (k + 1) = f by omega]; exact hu)
          clear hu h1 h5 hat hv' hv2 hin hc hpr
          go_wp2_with (first
            | (go_at_call 130; refine hfi.mono ?_; rintro e w4 ⟨rfl, hb4⟩; have e3 := (hb4.cell (p := ⟨bb, off + i * 6 + 2, none⟩) (World.block_lt_of_cell? _ _ e2)).trans e2; have HB4 := Lib.hid (below_then HU.out hb4); clear hb4 hfi)
            | fail)
          refine ⟨?_, by simp [intOf]; omega⟩
          first | exact ⟨k + 1, pr, by omega, by go_num, rfl, HB4, HB⟩ | ((repeat apply Exists.intro); exact ⟨⟨k + 1, pr, by omega, by go_num, rfl, HB4, HB⟩, rfl⟩)
        · have hneg := boxOf_neg cur l
          have hh : hasBox l cur = false := by
            cases hx : hasBox l cur with
            | false => rfl
            | true => exact absurd ((hasBox_iff l cur).1 hx) hin
          rw [hh] at hneg
          have hlt2 : boxOf cur l < 0 := by simpa using hneg
          have hnone : l.find? (fun b => decide (b.id = cur)) = none := by
            rw [List.find?_eq_none]
            intro y hy hd
            exact hin (List.mem_map.2 ⟨y, hy, by simpa using hd⟩)
          rw [hnone] at hu
          simp only at hu
          generalize boxOf cur l = r at hfi hlt2
          have HB := Lib.hid hu
          clear hu hneg hh hnone hin hc
          go_wp2_with (first
            | (go_at_call 130; refine hfi.mono ?_; rintro e w4 ⟨rfl, hb4⟩; have HB4 := Lib.hid (below_then HU.out hb4); clear hb4 hfi)
            | fail)
          go_ret
          exact ⟨ret_bool HB.out, HB4.out⟩
    · have hk1 : ¬ (k : Int) < (n : Int) + 1 := by omega
      have hu := HT.out
      rw [show n + 1 - k = 0 by omega, underP] at hu
      have HB := Lib.hid hu
      clear hu
      go_wp2_with fail
      go_ret
      exact ⟨ret_bool HB.out, HU.out⟩

end Go.Proofs.YtmbibhphpjmboaaGreatDoor

namespace Go.Proofs.YtmbibhphpjmboaaGreatDoor
open Go.Shelf Go.RowKit
attribute [local go_sem ↓] Go.wp_at_zero Go.wp_at_succ

theorem oneI_sl {W : World} {B : Nat} {i : Int} (h : Blk W B 3 #[.int .i64 i]) : Sl W 3 1 (.slice (some ⟨B, 0, none⟩) 1 1) (some B) 1 ([i].map encI) :=
  ⟨by simp [encI], .inr ⟨B, 0, 1, _, rfl, rfl, h, Nat.le_refl _, by unfold maxLen; omega, by simp, by simp [encI]⟩⟩
theorem ids_set {l : List BoxP} {i : Nat} (hi : i < l.length) {y : BoxP} (h : y.id = l[i].id) : ids (l.set i y) = ids l := by
  unfold ids
  rw [List.map_set, h]
  have h1 : (l.map (·.id))[i]? = some l[i].id := by rw [List.getElem?_map, List.getElem?_eq_getElem hi]; rfl
  apply List.ext_getElem?
  intro j
  rw [List.getElem?_set]
  by_cases hj : i = j
  · subst hj
    rw [if_pos rfl, h1]
    simp [hi]
  · rw [if_neg hj]

set_option maxRecDepth 100000 in
set_option maxHeartbeats 4000000 in
theorem rename_none (w : World) (g : Nat) (q : Lies) (x : Acc) (id : Int) (nl : Text) (parent : Int) (h : StoreAt w g q x) (hf : Fit x) (_ : nl.length ≤ 1099511627776) (hno : hasBox x.boxes id = false) :
    Calls Tryz.prog 29 #[.pointer (some ⟨g, 0, none⟩), .int .i64 id, .string ⟨nl.toArray⟩, .int .i64 parent] w (ErrOut w g q (renameP rightU x id nl parent)) := by
  have hnone : x.boxes.find? (fun b => decide (b.id = id)) = none := by
    rw [List.find?_eq_none]
    intro y hy hd
    have h1 : hasBox x.boxes id = true := (hasBox_iff x.boxes id).2 (List.mem_map.2 ⟨y, hy, by simpa using hd⟩)
    rw [hno] at h1
    cases h1
  have hres : renameP rightU x id nl parent = (x, 6) := by
    unfold renameP
    rw [hnone]
  rw [hres]
  have hbn : x.boxes.length ≤ 1099511627775 := by have := hf.nb; have := hf.clock; have := hf.cfg.mod; omega
  have hbc := box_any g q.vb [] x.boxes id w h.cell10 (h.boxes.reads [] (by simp)) (by omega)
  have H := Lib.hid h
  have HFI := Lib.hid hf
  have hlt := boxOf_neg id x.boxes
  rw [hno] at hlt
  have hlt2 : boxOf id x.boxes < 0 := by simpa using hlt
  generalize boxOf id x.boxes = r at hbc hlt2
  clear hres hlt h hf hno hnone
  go_enter Tryz.func29, Tryz.ntmps29
  go_wp2_with (first
    | (go_at_call 74; refine hbc.mono ?_; rintro e w1 ⟨rfl, hb1⟩; have HB1 := Lib.hid hb1; clear hb1 hbc)
    | fail)
  go_ret
  exact ⟨rfl, q, Turned.of_below H.out HB1.out⟩

set_option maxRecDepth 100000 in
set_option maxHeartbeats 4000000 in
theorem rename_bad (w : World) (g : Nat) (q : Lies) (x : Acc) (id : Int) (nl : Text) (parent : Int) (h : StoreAt w g q x) (hf : Fit x) (hnl : nl.length ≤ 1099511627776) (i : Nat) (hi : i < x.boxes.length) (hpl : boxOf id x.boxes = (i : Int)) (hfi : x.boxes.find? (fun b => decide (b.id = id)) = some x.boxes[i]) (hr : rightU nl = false) :
    Calls Tryz.prog 29 #[.pointer (some ⟨g, 0, none⟩), .int .i64 id, .string ⟨nl.toArray⟩, .int .i64 parent] w (ErrOut w g q (renameP rightU x id nl parent)) := by
  have hres : renameP rightU x id nl parent = (x, 1) := by
    unfold renameP
    rw [hfi]
    simp only
    rw [if_pos (.inl hr)]
  rw [hres]
  have hbn : x.boxes.length ≤ 1099511627775 := by have := hf.nb; have := hf.clock; have := hf.cfg.mod; omega
  have hbc := box_any g q.vb [] x.boxes id w h.cell10 (h.boxes.reads [] (by simp)) (by omega)
  have H := Lib.hid h
  have HFI := Lib.hid hf
  rw [hpl] at hbc
  have hi3 : ¬ (i : Int) < 0 := by omega
  have hri := fun W => tright_any ⟨nl.toArray⟩ (by show nl.toArray.size ≤ _; simp; omega) W
  rw [show rightU (⟨nl.toArray⟩ : ByteArray).data.toList = false from hr] at hri
  clear hres h hf hr hpl hfi
  go_enter Tryz.func29, Tryz.ntmps29
  go_wp2_with (first
    | (go_at_call 74; refine hbc.mono ?_; rintro e w1 ⟨rfl, hb1⟩; have HB1 := Lib.hid hb1; clear hb1 hbc)
    | (go_at_call 69; refine (hri w1).mono ?_; rintro e w2 ⟨rfl, hb2⟩; have HB2 := Lib.hid (below_then HB1.out hb2); clear hb2 hri)
    | fail)
  go_ret
  exact ⟨rfl, q, Turned.of_below H.out HB2.out⟩

set_option maxRecDepth 100000 in
set_option maxHeartbeats 4000000 in
theorem rename_one (w : World) (g : Nat) (q : Lies) (x : Acc) (id : Int) (nl : Text) (parent : Int) (h : StoreAt w g q x) (hf : Fit x) (hnl : nl.length ≤ 1099511627776) (i : Nat) (hi : i < x.boxes.length) (hpl : boxOf id x.boxes = (i : Int)) (hfi : x.boxes.find? (fun b => decide (b.id = id)) = some x.boxes[i]) (hr : rightU nl = true) (h1 : id = 1) :
    Calls Tryz.prog 29 #[.pointer (some ⟨g, 0, none⟩), .int .i64 id, .string ⟨nl.toArray⟩, .int .i64 parent] w (ErrOut w g q (renameP rightU x id nl parent)) := by
  have hres : renameP rightU x id nl parent = (x, 1) := by
    unfold renameP
    rw [hfi]
    simp only
    rw [if_pos (.inr h1)]
  rw [hres]
  have hbn : x.boxes.length ≤ 1099511627775 := by have := hf.nb; have := hf.clock; have := hf.cfg.mod; omega
  have hbc := box_any g q.vb [] x.boxes id w h.cell10 (h.boxes.reads [] (by simp)) (by omega)
  have H := Lib.hid h
  have HFI := Lib.hid hf
  rw [hpl] at hbc
  have hi3 : ¬ (i : Int) < 0 := by omega
  have hri := fun W => tright_any ⟨nl.toArray⟩ (by show nl.toArray.size ≤ _; simp; omega) W
  rw [show rightU (⟨nl.toArray⟩ : ByteArray).data.toList = true from hr] at hri
  have hq : (id == 1) = true := by simpa using h1
  clear hres h hf hr hpl hfi h1
  go_enter Tryz.func29, Tryz.ntmps29
  go_wp2_with (first
    | (go_at_call 74; refine hbc.mono ?_; rintro e w1 ⟨rfl, hb1⟩; have HB1 := Lib.hid hb1; clear hb1 hbc)
    | (go_at_call 69; refine (hri w1).mono ?_; rintro e w2 ⟨rfl, hb2⟩; have HB2 := Lib.hid (below_then HB1.out hb2); clear hb2 hri)
    | fail)
  go_ret
  exact ⟨rfl, q, Turned.of_below H.out HB2.out⟩

set_option maxRecDepth 100000 in
set_option maxHeartbeats 4000000 in
theorem rename_named (w : World) (g : Nat) (q : Lies) (x : Acc) (id : Int) (nl : Text) (parent : Int) (h : StoreAt w g q x) (hf : Fit x) (hnl : nl.length ≤ 1099511627776) (i : Nat) (hi : i < x.boxes.length) (hpl : boxOf id x.boxes = (i : Int)) (hfi : x.boxes.find? (fun b => decide (b.id = id)) = some x.boxes[i]) (hr : rightU nl = true) (h1 : ¬ id = 1) (hnm : namedP x nl parent id ≠ 0) :
    Calls Tryz.prog 29 #[.pointer (some ⟨g, 0, none⟩), .int .i64 id, .string ⟨nl.toArray⟩, .int .i64 parent] w (ErrOut w g q (renameP rightU x id nl parent)) := by
  have hres : renameP rightU x id nl parent = (x, namedP x nl parent id) := by
    unfold renameP
    rw [hfi]
    simp only
    rw [if_neg (by rw [hr]; simp [h1])]
    rw [if_pos hnm]
  rw [hres]
  have hbn : x.boxes.length ≤ 1099511627775 := by have := hf.nb; have := hf.clock; have := hf.cfg.mod; omega
  have hbc := box_any g q.vb [] x.boxes id w h.cell10 (h.boxes.reads [] (by simp)) (by omega)
  have H := Lib.hid h
  have HFI := Lib.hid hf
  rw [hpl] at hbc
  have hi3 : ¬ (i : Int) < 0 := by omega
  have hri := fun W => tright_any ⟨nl.toArray⟩ (by show nl.toArray.size ≤ _; simp; omega) W
  rw [show rightU (⟨nl.toArray⟩ : ByteArray).data.toList = true from hr] at hri
  have hna := fun W (hb : Below w.heap.size w W) => named_any W g q x (h.later hb) (by omega) nl (by omega) parent id
  have hq : (id == 1) = false := by simpa using h1
  generalize namedP x nl parent id = r at hnm hna ⊢
  have hqr : (r != 0) = true := by simpa using hnm
  have HNA := Lib.hid hna
  clear hres h hf hr hpl hfi h1 hna hnm
  go_enter Tryz.func29, Tryz.ntmps29
  go_wp2_with (first
    | (go_at_call 74; refine hbc.mono ?_; rintro e w1 ⟨rfl, hb1⟩; have HB1 := Lib.hid hb1; clear hb1 hbc)
    | (go_at_call 69; refine (hri w1).mono ?_; rintro e w2 ⟨rfl, hb2⟩; have HB2 := Lib.hid (below_then HB1.out hb2); clear hb2 hri)
    | (go_at_call 70; refine (HNA.out w2 HB2.out).mono ?_; rintro e w3 ⟨rfl, hb3⟩; have HB3 := Lib.hid (below_then HB2.out hb3); clear hb3)
    | fail)
  go_ret
  exact ⟨rfl, q, Turned.of_below H.out HB3.out⟩

set_option maxRecDepth 100000 in
set_option maxHeartbeats 4000000 in
theorem rename_under (w : World) (g : Nat) (q : Lies) (x : Acc) (id : Int) (nl : Text) (parent : Int) (h : StoreAt w g q x) (hf : Fit x) (hnl : nl.length ≤ 1099511627776) (i : Nat) (hi : i < x.boxes.length) (hpl : boxOf id x.boxes = (i : Int)) (hfi : x.boxes.find? (fun b => decide (b.id = id)) = some x.boxes[i]) (hr : rightU nl = true) (h1 : ¬ id = 1) (hnm : namedP x nl parent id = 0) (hun : underP x.boxes id (x.boxes.length + 1) parent = true) :
    Calls Tryz.prog 29 #[.pointer (some ⟨g, 0, none⟩), .int .i64 id, .string ⟨nl.toArray⟩, .int .i64 parent] w (ErrOut w g q (renameP rightU x id nl parent)) := by
  have hres : renameP rightU x id nl parent = (x, 10) := by
    unfold renameP
    rw [hfi]
    simp only
    rw [if_neg (by rw [hr]; simp [h1])]
    rw [if_neg (by rw [hnm]; decide)]
    rw [if_pos hun]
  rw [hres]
  have hbn : x.boxes.length ≤ 1099511627775 := by have := hf.nb; have := hf.clock; have := hf.cfg.mod; omega
  have hbc := box_any g q.vb [] x.boxes id w h.cell10 (h.boxes.reads [] (by simp)) (by omega)
  have H := Lib.hid h
  have HFI := Lib.hid hf
  rw [hpl] at hbc
  have hi3 : ¬ (i : Int) < 0 := by omega
  have hri := fun W => tright_any ⟨nl.toArray⟩ (by show nl.toArray.size ≤ _; simp; omega) W
  rw [show rightU (⟨nl.toArray⟩ : ByteArray).data.toList = true from hr] at hri
  have hna := fun W (hb : Below w.heap.size w W) => named_any W g q x (h.later hb) (by omega) nl (by omega) parent id
  rw [hnm] at hna
  have hun2 := fun W (hb : Below w.heap.size w W) => under_any q.vb [] x.boxes parent id W ((h.later hb).boxes.reads [] (by simp)) hbn
  rw [hun] at hun2
  have hq : (id == 1) = false := by simpa using h1
  obtain ⟨Ab, cb, hvb, _, _⟩ := h.boxes.form
  have HVB := Lib.hid hvb
  rw [hvb] at hun2
  have HNA := Lib.hid hna
  have HUN := Lib.hid hun2
  clear hres h hr hpl hfi h1 hna hnm hun hun2 hvb hf
  go_enter Tryz.func29, Tryz.ntmps29
  go_wp2_with (first
    | (go_at_call 74; refine hbc.mono ?_; rintro e w1 ⟨rfl, hb1⟩; have HB1 := Lib.hid hb1; clear hb1 hbc)
    | (go_at_call 69; refine (hri w1).mono ?_; rintro e w2 ⟨rfl, hb2⟩; have HB2 := Lib.hid (below_then HB1.out hb2); clear hb2 hri)
    | (go_at_call 70; refine (HNA.out w2 HB2.out).mono ?_; rintro e w3 ⟨rfl, hb3⟩; have HB3 := Lib.hid (below_then HB2.out hb3); clear hb3; have k10 := (H.out.later HB3.out).cell10; rw [HVB.out] at k10)
    | (go_at_call 75; refine (HUN.out w3 HB3.out).mono ?_; rintro e w4 ⟨rfl, hb4⟩; have HB4 := Lib.hid (below_then HB3.out hb4); clear hb4 HUN)
    | fail)
  go_ret
  exact ⟨rfl, q, Turned.of_below H.out HB4.out⟩

set_option maxRecDepth 100000 in
set_option maxHeartbeats 4000000 in
theorem rename_same (w : World) (g : Nat) (q : Lies) (x : Acc) (id : Int) (nl : Text) (parent : Int) (h : StoreAt w g q x) (hf : Fit x) (hnl : nl.length ≤ 1099511627776) (i : Nat) (hi : i < x.boxes.length) (hpl : boxOf id x.boxes = (i : Int)) (hfi : x.boxes.find? (fun b => decide (b.id = id)) = some x.boxes[i]) (hr : rightU nl = true) (h1 : ¬ id = 1) (hnm : namedP x nl parent id = 0) (hun : underP x.boxes id (x.boxes.length + 1) parent = false) (hn1 : x.boxes[i].name = nl) (hp1 : x.boxes[i].parent = parent) :
    Calls Tryz.prog 29 #[.pointer (some ⟨g, 0, none⟩), .int .i64 id, .string ⟨nl.toArray⟩, .int .i64 parent] w (ErrOut w g q (renameP rightU x id nl parent)) := by
  have hres : renameP rightU x id nl parent = (x, 0) := by
    unfold renameP
    rw [hfi]
    simp only
    rw [if_neg (by rw [hr]; simp [h1])]
    rw [if_neg (by rw [hnm]; decide)]
    rw [if_neg (by rw [hun]; decide)]
    rw [if_pos ⟨hn1, hp1⟩]
  rw [hres]
  have hbn : x.boxes.length ≤ 1099511627775 := by have := hf.nb; have := hf.clock; have := hf.cfg.mod; omega
  have hbc := box_any g q.vb [] x.boxes id w h.cell10 (h.boxes.reads [] (by simp)) (by omega)
  have H := Lib.hid h
  have HFI := Lib.hid hf
  rw [hpl] at hbc
  have hi3 : ¬ (i : Int) < 0 := by omega
  have hri := fun W => tright_any ⟨nl.toArray⟩ (by show nl.toArray.size ≤ _; simp; omega) W
  rw [show rightU (⟨nl.toArray⟩ : ByteArray).data.toList = true from hr] at hri
  have hna := fun W (hb : Below w.heap.size w W) => named_any W g q x (h.later hb) (by omega) nl (by omega) parent id
  obtain ⟨b, off, cap, hv, _, hnc, hcm, _, _⟩ := h.boxAt i hi
  obtain ⟨n, hnn⟩ : ∃ n, x.boxes.length = n := ⟨_, rfl⟩
  have hv2 := hv
  rw [hnn] at hv2
  have hi1 : (i : Int) < (n : Int) := by omega
  have hi2 : (0 : Int) ≤ (i : Int) := by omega
  have hnb : n ≤ 1099511627775 := by omega
  obtain ⟨y, hy⟩ : ∃ y, x.boxes[i] = y := ⟨_, rfl⟩
  have hat : ∀ W, Below w.heap.size w W → W.cell? ⟨g, 10, none⟩ = some (.slice (some ⟨b, off, none⟩) n cap) ∧ W.cell? ⟨b, off + i * 6 + 1, none⟩ = some (.string ⟨y.name.toArray⟩) ∧ W.cell? ⟨b, off + i * 6 + 2, none⟩ = some (.int .i64 y.parent) := fun W hb => by
    have h5 := h.later hb
    obtain ⟨b', off', cap', hv', _, _, _, _, hat'⟩ := h5.boxAt i hi
    have h6 := hv.symm.trans hv'
    injection h6 with e1 e2 e3
    injection e1 with e1
    injection e1 with e1 e4
    subst e1 e4 e3
    refine ⟨by rw [h5.cell10, hv2], ((hat' 1 (by omega)).1).trans (by rw [hy]; rfl), ((hat' 2 (by omega)).1).trans (by rw [hy]; rfl)⟩
  have HAT := Lib.hid hat
  rw [hy] at hn1 hp1
  have hqn : (y.name == nl) = true := by simpa using hn1
  have hqp : (y.parent == parent) = true := by simpa using hp1
  clear hn1 hp1
  rw [hnm] at hna
  have hun2 := fun W (hb : Below w.heap.size w W) => under_any q.vb [] x.boxes parent id W ((h.later hb).boxes.reads [] (by simp)) hbn
  rw [hun, hv2] at hun2
  have hq : (id == 1) = false := by simpa using h1
  have HNA := Lib.hid hna
  have HUN := Lib.hid hun2
  have HV2 := Lib.hid hv2
  have HNN := Lib.hid hnn
  have HY := Lib.hid hy
  clear hr hpl hfi h1 hna hnm hun hun2 hv hv2 hat hnn hy hres h hf
  go_enter Tryz.func29, Tryz.ntmps29
  go_wp2_with (first
    | (go_at_call 74; refine hbc.mono ?_; rintro e w1 ⟨rfl, hb1⟩; have HB1 := Lib.hid hb1; clear hb1 hbc)
    | (go_at_call 69; refine (hri w1).mono ?_; rintro e w2 ⟨rfl, hb2⟩; have HB2 := Lib.hid (below_then HB1.out hb2); clear hb2 hri)
    | (go_at_call 70; refine (HNA.out w2 HB2.out).mono ?_; rintro e w3 ⟨rfl, hb3⟩; have HB3 := Lib.hid (below_then HB2.out hb3); clear hb3; obtain ⟨k10, _, _⟩ := HAT.out w3 HB3.out)
    | (go_at_call 75; refine (HUN.out w3 HB3.out).mono ?_; rintro e w4 ⟨rfl, hb4⟩; have HB4 := Lib.hid (below_then HB3.out hb4); clear hb4 HUN; obtain ⟨m10, m1, m2⟩ := HAT.out w4 HB4.out)
    | fail)
  go_ret
  exact ⟨rfl, q, Turned.of_below H.out HB4.out⟩

set_option maxRecDepth 100000 in
set_option maxHeartbeats 4000000 in
theorem rename_ends2 (w : World) (g : Nat) (q : Lies) (x : Acc) (id : Int) (nl : Text) (parent : Int) (h : StoreAt w g q x) (hf : Fit x) (hnl : nl.length ≤ 1099511627776) (i : Nat) (hi : i < x.boxes.length) (hpl : boxOf id x.boxes = (i : Int)) (hfi : x.boxes.find? (fun b => decide (b.id = id)) = some x.boxes[i]) (hr : rightU nl = true) (h1 : ¬ id = 1) (hnm : namedP x nl parent id = 0) (hun : underP x.boxes id (x.boxes.length + 1) parent = false) (hn1 : x.boxes[i].name = nl) (hp1 : ¬ x.boxes[i].parent = parent) (hen : x.cfg.maxMod ≤ x.clock) :
    Calls Tryz.prog 29 #[.pointer (some ⟨g, 0, none⟩), .int .i64 id, .string ⟨nl.toArray⟩, .int .i64 parent] w (ErrOut w g q (renameP rightU x id nl parent)) := by
  have hres : renameP rightU x id nl parent = (x, 11) := by
    unfold renameP
    rw [hfi]
    simp only
    rw [if_neg (by rw [hr]; simp [h1])]
    rw [if_neg (by rw [hnm]; decide)]
    rw [if_neg (by rw [hun]; decide)]
    rw [if_neg (fun hh => hp1 hh.2)]
    rw [if_pos (by simp [Acc.ends, hen])]
  rw [hres]
  have hbn : x.boxes.length ≤ 1099511627775 := by have := hf.nb; have := hf.clock; have := hf.cfg.mod; omega
  have hbc := box_any g q.vb [] x.boxes id w h.cell10 (h.boxes.reads [] (by simp)) (by omega)
  have H := Lib.hid h
  have HFI := Lib.hid hf
  rw [hpl] at hbc
  have hi3 : ¬ (i : Int) < 0 := by omega
  have hri := fun W => tright_any ⟨nl.toArray⟩ (by show nl.toArray.size ≤ _; simp; omega) W
  rw [show rightU (⟨nl.toArray⟩ : ByteArray).data.toList = true from hr] at hri
  have hna := fun W (hb : Below w.heap.size w W) => named_any W g q x (h.later hb) (by omega) nl (by omega) parent id
  obtain ⟨b, off, cap, hv, _, hnc, hcm, _, _⟩ := h.boxAt i hi
  obtain ⟨n, hnn⟩ : ∃ n, x.boxes.length = n := ⟨_, rfl⟩
  have hv2 := hv
  rw [hnn] at hv2
  have hi1 : (i : Int) < (n : Int) := by omega
  have hi2 : (0 : Int) ≤ (i : Int) := by omega
  have hnb : n ≤ 1099511627775 := by omega
  obtain ⟨y, hy⟩ : ∃ y, x.boxes[i] = y := ⟨_, rfl⟩
  have hat : ∀ W, Below w.heap.size w W → W.cell? ⟨g, 10, none⟩ = some (.slice (some ⟨b, off, none⟩) n cap) ∧ W.cell? ⟨b, off + i * 6 + 1, none⟩ = some (.string ⟨y.name.toArray⟩) ∧ W.cell? ⟨b, off + i * 6 + 2, none⟩ = some (.int .i64 y.parent) := fun W hb => by
    have h5 := h.later hb
    obtain ⟨b', off', cap', hv', _, _, _, _, hat'⟩ := h5.boxAt i hi
    have h6 := hv.symm.trans hv'
    injection h6 with e1 e2 e3
    injection e1 with e1
    injection e1 with e1 e4
    subst e1 e4 e3
    refine ⟨by rw [h5.cell10, hv2], ((hat' 1 (by omega)).1).trans (by rw [hy]; rfl), ((hat' 2 (by omega)).1).trans (by rw [hy]; rfl)⟩
  have HAT := Lib.hid hat
  rw [hy] at hn1 hp1
  have hqn : (y.name == nl) = true := by simpa using hn1
  have hqp : (y.parent == parent) = false := by simpa using hp1
  clear hn1 hp1
  rw [hnm] at hna
  have hun2 := fun W (hb : Below w.heap.size w W) => under_any q.vb [] x.boxes parent id W ((h.later hb).boxes.reads [] (by simp)) hbn
  rw [hun, hv2] at hun2
  have hq : (id == 1) = false := by simpa using h1
  have HNA := Lib.hid hna
  have HUN := Lib.hid hun2
  have HV2 := Lib.hid hv2
  have HNN := Lib.hid hnn
  have HY := Lib.hid hy
  clear hr hpl hfi h1 hna hnm hun hun2 hv hv2 hat hnn hy hres h hf
  go_enter Tryz.func29, Tryz.ntmps29
  go_wp2_with (first
    | (go_at_call 74; refine hbc.mono ?_; rintro e w1 ⟨rfl, hb1⟩; have HB1 := Lib.hid hb1; clear hb1 hbc)
    | (go_at_call 69; refine (hri w1).mono ?_; rintro e w2 ⟨rfl, hb2⟩; have HB2 := Lib.hid (below_then HB1.out hb2); clear hb2 hri)
    | (go_at_call 70; refine (HNA.out w2 HB2.out).mono ?_; rintro e w3 ⟨rfl, hb3⟩; have HB3 := Lib.hid (below_then HB2.out hb3); clear hb3; obtain ⟨k10, _, _⟩ := HAT.out w3 HB3.out)
    | (go_at_call 75; refine (HUN.out w3 HB3.out).mono ?_; rintro e w4 ⟨rfl, hb4⟩; have HB4 := Lib.hid (below_then HB3.out hb4); clear hb4 HUN; obtain ⟨m10, m1, m2⟩ := HAT.out w4 HB4.out; have c6 : w4.cell? ⟨g, 6, none⟩ = some (.int .i64 x.cfg.maxMod) := (H.out.later HB4.out).cells 6; have c9 := (H.out.later HB4.out).cell9)
    | (go_at_call 53; refine (ends_any g x.clock x.cfg.maxMod _ ((cell_heap (w := w4) (by rfl) _).trans c9) ((cell_heap (w := w4) (by rfl) _).trans c6)).mono ?_; rintro e w5 ⟨rfl, ne, rfl⟩)
    | fail)
  go_ret
  exact ⟨rfl, q, (Turned.of_below H.out HB4.out).then_below (below_drewN' (Below.refl _ _) _)⟩

set_option maxRecDepth 100000 in
set_option maxHeartbeats 4000000 in
theorem rename_ends3 (w : World) (g : Nat) (q : Lies) (x : Acc) (id : Int) (nl : Text) (parent : Int) (h : StoreAt w g q x) (hf : Fit x) (hnl : nl.length ≤ 1099511627776) (i : Nat) (hi : i < x.boxes.length) (hpl : boxOf id x.boxes = (i : Int)) (hfi : x.boxes.find? (fun b => decide (b.id = id)) = some x.boxes[i]) (hr : rightU nl = true) (h1 : ¬ id = 1) (hnm : namedP x nl parent id = 0) (hun : underP x.boxes id (x.boxes.length + 1) parent = false) (hn1 : ¬ x.boxes[i].name = nl) (hen : x.cfg.maxMod ≤ x.clock) :
    Calls Tryz.prog 29 #[.pointer (some ⟨g, 0, none⟩), .int .i64 id, .string ⟨nl.toArray⟩, .int .i64 parent] w (ErrOut w g q (renameP rightU x id nl parent)) := by
  have hres : renameP rightU x id nl parent = (x, 11) := by
    unfold renameP
    rw [hfi]
    simp only
    rw [if_neg (by rw [hr]; simp [h1])]
    rw [if_neg (by rw [hnm]; decide)]
    rw [if_neg (by rw [hun]; decide)]
    rw [if_neg (fun hh => hn1 hh.1)]
    rw [if_pos (by simp [Acc.ends, hen])]
  rw [hres]
  have hbn : x.boxes.length ≤ 1099511627775 := by have := hf.nb; have := hf.clock; have := hf.cfg.mod; omega
  have hbc := box_any g q.vb [] x.boxes id w h.cell10 (h.boxes.reads [] (by simp)) (by omega)
  have H := Lib.hid h
  have HFI := Lib.hid hf
  rw [hpl] at hbc
  have hi3 : ¬ (i : Int) < 0 := by omega
  have hri := fun W => tright_any ⟨nl.toArray⟩ (by show nl.toArray.size ≤ _; simp; omega) W
  rw [show rightU (⟨nl.toArray⟩ : ByteArray).data.toList = true from hr] at hri
  have hna := fun W (hb : Below w.heap.size w W) => named_any W g q x (h.later hb) (by omega) nl (by omega) parent id
  obtain ⟨b, off, cap, hv, _, hnc, hcm, _, _⟩ := h.boxAt i hi
  obtain ⟨n, hnn⟩ : ∃ n, x.boxes.length = n := ⟨_, rfl⟩
  have hv2 := hv
  rw [hnn] at hv2
  have hi1 : (i : Int) < (n : Int) := by omega
  have hi2 : (0 : Int) ≤ (i : Int) := by omega
  have hnb : n ≤ 1099511627775 := by omega
  obtain ⟨y, hy⟩ : ∃ y, x.boxes[i] = y := ⟨_, rfl⟩
  have hat : ∀ W, Below w.heap.size w W → W.cell? ⟨g, 10, none⟩ = some (.slice (some ⟨b, off, none⟩) n cap) ∧ W.cell? ⟨b, off + i * 6 + 1, none⟩ = some (.string ⟨y.name.toArray⟩) ∧ W.cell? ⟨b, off + i * 6 + 2, none⟩ = some (.int .i64 y.parent) := fun W hb => by
    have h5 := h.later hb
    obtain ⟨b', off', cap', hv', _, _, _, _, hat'⟩ := h5.boxAt i hi
    have h6 := hv.symm.trans hv'
    injection h6 with e1 e2 e3
    injection e1 with e1
    injection e1 with e1 e4
    subst e1 e4 e3
    refine ⟨by rw [h5.cell10, hv2], ((hat' 1 (by omega)).1).trans (by rw [hy]; rfl), ((hat' 2 (by omega)).1).trans (by rw [hy]; rfl)⟩
  have HAT := Lib.hid hat
  rw [hy] at hn1
  have hqn : (y.name == nl) = false := by simpa using hn1
  clear hn1
  rw [hnm] at hna
  have hun2 := fun W (hb : Below w.heap.size w W) => under_any q.vb [] x.boxes parent id W ((h.later hb).boxes.reads [] (by simp)) hbn
  rw [hun, hv2] at hun2
  have hq : (id == 1) = false := by simpa using h1
  have HNA := Lib.hid hna
  have HUN := Lib.hid hun2
  have HV2 := Lib.hid hv2
  have HNN := Lib.hid hnn
  have HY := Lib.hid hy
  clear hr hpl hfi h1 hna hnm hun hun2 hv hv2 hat hnn hy hres h hf
  go_enter Tryz.func29, Tryz.ntmps29
  go_wp2_with (first
    | (go_at_call 74; refine hbc.mono ?_; rintro e w1 ⟨rfl, hb1⟩; have HB1 := Lib.hid hb1; clear hb1 hbc)
    | (go_at_call 69; refine (hri w1).mono ?_; rintro e w2 ⟨rfl, hb2⟩; have HB2 := Lib.hid (below_then HB1.out hb2); clear hb2 hri)
    | (go_at_call 70; refine (HNA.out w2 HB2.out).mono ?_; rintro e w3 ⟨rfl, hb3⟩; have HB3 := Lib.hid (below_then HB2.out hb3); clear hb3; obtain ⟨k10, _, _⟩ := HAT.out w3 HB3.out)
    | (go_at_call 75; refine (HUN.out w3 HB3.out).mono ?_; rintro e w4 ⟨rfl, hb4⟩; have HB4 := Lib.hid (below_then HB3.out hb4); clear hb4 HUN; obtain ⟨m10, m1, m2⟩ := HAT.out w4 HB4.out; have c6 : w4.cell? ⟨g, 6, none⟩ = some (.int .i64 x.cfg.maxMod) := (H.out.later HB4.out).cells 6; have c9 := (H.out.later HB4.out).cell9)
    | (go_at_call 53; refine (ends_any g x.clock x.cfg.maxMod _ ((cell_heap (w := w4) (by rfl) _).trans c9) ((cell_heap (w := w4) (by rfl) _).trans c6)).mono ?_; rintro e w5 ⟨rfl, ne, rfl⟩)
    | fail)
  go_ret
  exact ⟨rfl, q, (Turned.of_below H.out HB4.out).then_below (below_drewN' (Below.refl _ _) _)⟩

set_option maxRecDepth 100000 in
set_option maxHeartbeats 4000000 in
theorem rename_ok2 (w : World) (g : Nat) (q : Lies) (x : Acc) (id : Int) (nl : Text) (parent : Int) (h : StoreAt w g q x) (hf : Fit x) (hnl : nl.length ≤ 1099511627776) (i : Nat) (hi : i < x.boxes.length) (hpl : boxOf id x.boxes = (i : Int)) (hfi : x.boxes.find? (fun b => decide (b.id = id)) = some x.boxes[i]) (hr : rightU nl = true) (h1 : ¬ id = 1) (hnm : namedP x nl parent id = 0) (hun : underP x.boxes id (x.boxes.length + 1) parent = false) (hset : ∀ f, setBox id f x.boxes = x.boxes.set i (f x.boxes[i])) (hyid : x.boxes[i].id = id) (hn1 : x.boxes[i].name = nl) (hp1 : ¬ x.boxes[i].parent = parent) (hen : ¬ x.cfg.maxMod ≤ x.clock) :
    Calls Tryz.prog 29 #[.pointer (some ⟨g, 0, none⟩), .int .i64 id, .string ⟨nl.toArray⟩, .int .i64 parent] w (ErrOut w g q (renameP rightU x id nl parent)) := by
  obtain ⟨rr, hrr⟩ : ∃ rr, renameP rightU x id nl parent = rr := ⟨_, rfl⟩
  have hres : rr = ({ x with clock := x.clock + 1, boxes := turnBoxes (x.clock + 1) [id] (x.boxes.set i { x.boxes[i] with name := nl, parent := parent }), log := x.log.add (turnEnts (x.clock + 1) [id]) }, 0) := by
    rw [← hrr]
    unfold renameP
    rw [hfi]
    simp only
    rw [if_neg (by rw [hr]; simp [h1])]
    rw [if_neg (by rw [hnm]; decide)]
    rw [if_neg (by rw [hun]; decide)]
    rw [if_neg (fun hh => hp1 hh.2)]
    rw [if_neg (by simp [Acc.ends]; omega), hset]
  rw [hrr]
  clear hset hrr
  have hbn : x.boxes.length ≤ 1099511627775 := by have := hf.nb; have := hf.clock; have := hf.cfg.mod; omega
  have hbc := box_any g q.vb [] x.boxes id w h.cell10 (h.boxes.reads [] (by simp)) (by omega)
  have H := Lib.hid h
  have HFI := Lib.hid hf
  rw [hpl] at hbc
  have hi3 : ¬ (i : Int) < 0 := by omega
  have hri := fun W => tright_any ⟨nl.toArray⟩ (by show nl.toArray.size ≤ _; simp; omega) W
  rw [show rightU (⟨nl.toArray⟩ : ByteArray).data.toList = true from hr] at hri
  have hna := fun W (hb : Below w.heap.size w W) => named_any W g q x (h.later hb) (by omega) nl (by omega) parent id
  obtain ⟨b, off, cap, hv, _, hnc, hcm, _, _⟩ := h.boxAt i hi
  obtain ⟨n, hnn⟩ : ∃ n, x.boxes.length = n := ⟨_, rfl⟩
  have hv2 := hv
  rw [hnn] at hv2
  have hi1 : (i : Int) < (n : Int) := by omega
  have hi2 : (0 : Int) ≤ (i : Int) := by omega
  have hnb : n ≤ 1099511627775 := by omega
  obtain ⟨y, hy⟩ : ∃ y, x.boxes[i] = y := ⟨_, rfl⟩
  have hat : ∀ W, Below w.heap.size w W → W.cell? ⟨g, 10, none⟩ = some (.slice (some ⟨b, off, none⟩) n cap) ∧ W.cell? ⟨b, off + i * 6 + 1, none⟩ = some (.string ⟨y.name.toArray⟩) ∧ W.cell? ⟨b, off + i * 6 + 2, none⟩ = some (.int .i64 y.parent) := fun W hb => by
    have h5 := h.later hb
    obtain ⟨b', off', cap', hv', _, _, _, _, hat'⟩ := h5.boxAt i hi
    have h6 := hv.symm.trans hv'
    injection h6 with e1 e2 e3
    injection e1 with e1
    injection e1 with e1 e4
    subst e1 e4 e3
    refine ⟨by rw [h5.cell10, hv2], ((hat' 1 (by omega)).1).trans (by rw [hy]; rfl), ((hat' 2 (by omega)).1).trans (by rw [hy]; rfl)⟩
  have HAT := Lib.hid hat
  rw [hy] at hn1 hp1
  have hqn : (y.name == nl) = true := by simpa using hn1
  have hqp : (y.parent == parent) = false := by simpa using hp1
  clear hn1 hp1
  rw [hy] at hyid hres
  have hin : id ∈ ids (x.boxes.set i { y with name := nl, parent := parent }) := by
    rw [ids_set hi (by rw [hy])]
    exact List.mem_map.2 ⟨x.boxes[i], List.getElem_mem hi, by rw [hy]; exact hyid⟩
  have HIN := Lib.hid hin
  have HRES := Lib.hid hres
  have hcl := hf.clock
  have hmd := hf.cfg.mod
  rw [hnm] at hna
  have hun2 := fun W (hb : Below w.heap.size w W) => under_any q.vb [] x.boxes parent id W ((h.later hb).boxes.reads [] (by simp)) hbn
  rw [hun, hv2] at hun2
  have hq : (id == 1) = false := by simpa using h1
  have HNA := Lib.hid hna
  have HUN := Lib.hid hun2
  have HV2 := Lib.hid hv2
  have HNN := Lib.hid hnn
  have HY := Lib.hid hy
  clear hr hpl hfi h1 hna hnm hun hun2 hv hv2 hat hnn hy hres h hf hyid hin
  go_enter Tryz.func29, Tryz.ntmps29
  go_upto_region 18 with (first
    | (go_at_call 74; refine hbc.mono ?_; rintro e w1 ⟨rfl, hb1⟩; have HB1 := Lib.hid hb1; clear hb1 hbc)
    | (go_at_call 69; refine (hri w1).mono ?_; rintro e w2 ⟨rfl, hb2⟩; have HB2 := Lib.hid (below_then HB1.out hb2); clear hb2 hri)
    | (go_at_call 70; refine (HNA.out w2 HB2.out).mono ?_; rintro e w3 ⟨rfl, hb3⟩; have HB3 := Lib.hid (below_then HB2.out hb3); clear hb3; obtain ⟨k10, _, _⟩ := HAT.out w3 HB3.out)
    | (go_at_call 75; refine (HUN.out w3 HB3.out).mono ?_; rintro e w4 ⟨rfl, hb4⟩; have HB4 := Lib.hid (below_then HB3.out hb4); clear hb4 HUN; obtain ⟨m10, m1, m2⟩ := HAT.out w4 HB4.out; have c6 : w4.cell? ⟨g, 6, none⟩ = some (.int .i64 x.cfg.maxMod) := (H.out.later HB4.out).cells 6; have c9 := (H.out.later HB4.out).cell9)
    | (go_at_call 53; refine (ends_any g x.clock x.cfg.maxMod _ ((cell_heap (w := w4) (by rfl) _).trans c9) ((cell_heap (w := w4) (by rfl) _).trans c6)).mono ?_; rintro e w5 ⟨rfl, ne, rfl⟩; have hb5 := (below_then HB4.out (below_drewN' (Below.refl w4.heap.size w4) ne)); have HB5 := Lib.hid hb5; clear hb5)
    | fail)
  obtain ⟨wa, hwa⟩ : ∃ wa : World, wa = w4.drewN ne := ⟨_, rfl⟩
  rw [← hwa]
  have hba : Below w.heap.size w wa := by rw [hwa]; exact HB5.out
  have HBA := Lib.hid hba
  clear hwa k10 m10 m1 m2 c6 c9
  obtain ⟨c10, _, _⟩ := HAT.out wa hba
  have HST := Lib.hid (H.out.later hba)
  have hv3 : q.vb = .slice (some ⟨b, off, none⟩) x.boxes.length cap := by rw [HNN.out]; exact HV2.out
  obtain ⟨b', off', cap', hv', _, _, _, hbl, hat'⟩ := HST.out.boxAt i hi
  have h6 := hv3.symm.trans hv'
  injection h6 with e1 e2 e3
  injection e1 with e1
  injection e1 with e1 e4
  subst e1 e4 e3
  have f1 := (hat' 1 (by omega)).2
  have f2 := (hat' 2 (by omega)).2
  have c1 : wa.cell? ⟨b, off + i * 6 + 1, none⟩ = some (.string ⟨y.name.toArray⟩) := ((hat' 1 (by omega)).1).trans (by rw [HY.out]; rfl)
  have c2 : wa.cell? ⟨b, off + i * 6 + 2, none⟩ = some (.int .i64 y.parent) := ((hat' 2 (by omega)).1).trans (by rw [HY.out]; rfl)
  have hset1 : ∀ W : World, W.heap = wa.heap → W.os = wa.os → W.tape = wa.tape → W.output = wa.output → Turned w ((W.setCell ⟨b, off + i * 6 + 1, none⟩ (.string ⟨nl.toArray⟩)).setCell ⟨b, off + i * 6 + 2, none⟩ (.int .i64 parent)) g q { x with boxes := x.boxes.set i { y with name := nl, parent := parent } } q ∧ Turned w ((W.setCell ⟨b, off + i * 6 + 2, none⟩ (.int .i64 parent)).setCell ⟨b, off + i * 6 + 1, none⟩ (.string ⟨nl.toArray⟩)) g q { x with boxes := x.boxes.set i { y with name := nl, parent := parent } } q := fun W e0 e1 e2 e3 => by
    have hb : Below wa.heap.size wa W := ⟨e1, e2, e3, Nat.le_of_eq (by rw [e0]), fun _ _ => by rw [e0]⟩
    have hb2 := below_then HBA.out hb
    have hT := Turned.of_below H.out hb2
    have hs := H.out.later hb2
    constructor
    · have t1 := hs.setBoxCell hv3 i hi 1 (by omega) (.string ⟨nl.toArray⟩) { y with name := nl } (by rw [HY.out]; rfl)
      have t2 := t1.at_.setBoxCell (by show q.vb = .slice (some ⟨b, off, none⟩) x.boxes.length cap; exact hv3) i (by simpa using hi) 2 (by omega) (.int .i64 parent) { y with name := nl, parent := parent } (by simp [encB, strV])
      have t3 := (hT.trans t1).trans t2
      rw [show (x.boxes.set i { y with name := nl }).set i { y with name := nl, parent := parent } = x.boxes.set i { y with name := nl, parent := parent } from by rw [List.set_set]] at t3
      exact t3
    · have t1 := hs.setBoxCell hv3 i hi 2 (by omega) (.int .i64 parent) { y with parent := parent } (by rw [HY.out]; rfl)
      have t2 := t1.at_.setBoxCell (by show q.vb = .slice (some ⟨b, off, none⟩) x.boxes.length cap; exact hv3) i (by simpa using hi) 1 (by omega) (.string ⟨nl.toArray⟩) { y with name := nl, parent := parent } (by simp [encB, strV])
      have t3 := (hT.trans t1).trans t2
      rw [show (x.boxes.set i { y with parent := parent }).set i { y with name := nl, parent := parent } = x.boxes.set i { y with name := nl, parent := parent } from by rw [List.set_set]] at t3
      exact t3
  have HSET := Lib.hid hset1
  clear hat' hv' hv3 hset1 hba
  go_cut [] (fun wx => Hid (Turned w wx g q { x with boxes := x.boxes.set i { y with name := nl, parent := parent } } q))
  case first =>
    go_region_law (first
      | fail)
    all_goals
      go_wp2_with fail
      go_meet
      first
        | exact Lib.hid (HSET.out wa.drew rfl rfl rfl rfl).1
        | exact Lib.hid (HSET.out wa.drew rfl rfl rfl rfl).2
  case rest =>
    have HT := hcut
    clear hcut
    obtain ⟨wb, rfl⟩ : ∃ wb : World, wb = wc := ⟨_, rfl⟩
    clear c10 c1 c2 f1 f2 hbl
    have c12 : wb.cell? ⟨g, 12, none⟩ = some (.pointer (some ⟨q.gl, 0, none⟩)) := HT.out.at_.cell12
    have hgl : g < wb.heap.size := HT.out.at_.blk.lt
    have c12a := (World.cell?_alloc_lt wb (.cells #[.int .i64 id] 3) ⟨g, 12, none⟩ hgl).trans c12
    have hs1 : ∀ W : World, W.heap = wb.heap → W.os = wb.os → W.tape = wb.tape → W.output = wb.output → Calls Tryz.prog 56 #[.pointer (some ⟨g, 0, none⟩)] W fun e w' => e = .returned (.int .i64 (x.clock + 1)) ∧ Turned w w' g q { x with clock := x.clock + 1, boxes := x.boxes.set i { y with name := nl, parent := parent } } q := fun W e0 e1 e2 e3 => by
      have hb : Below wb.heap.size wb W := ⟨e1, e2, e3, Nat.le_of_eq (by rw [e0]), fun _ _ => by rw [e0]⟩
      have h1 := HT.out.at_.later hb
      refine (step_any g x.clock W h1.cell9 (h1.frozen 9) (by omega)).mono ?_
      rintro e w' ⟨rfl, rfl⟩
      exact ⟨rfl, (HT.out.then_below' hb).trans (h1.setStruct 9 (.int .i64 (x.clock + 1)) { x with clock := x.clock + 1, boxes := x.boxes.set i { y with name := nl, parent := parent } } rfl rfl rfl rfl)⟩
    have hs2 : ∀ W : World, W.heap = (wb.alloc (.cells #[.int .i64 id] 3)).heap → W.os = wb.os → W.tape = wb.tape → W.output = wb.output → Calls Tryz.prog 56 #[.pointer (some ⟨g, 0, none⟩)] W fun e w' => e = .returned (.int .i64 (x.clock + 1)) ∧ Turned w w' g q { x with clock := x.clock + 1, boxes := x.boxes.set i { y with name := nl, parent := parent } } q ∧ Blk w' wb.heap.size 3 #[.int .i64 id] := fun W e0 e1 e2 e3 => by
      have hb : Below (wb.alloc (.cells #[.int .i64 id] 3)).heap.size (wb.alloc (.cells #[.int .i64 id] 3)) W := ⟨e1, e2, e3, Nat.le_of_eq (by rw [e0]), fun _ _ => by rw [e0]⟩
      have hb2 := below_then (below_alloc1 wb _) hb
      have h1 := HT.out.at_.later hb2
      refine (step_any g x.clock W h1.cell9 (h1.frozen 9) (by omega)).mono ?_
      rintro e w' ⟨rfl, rfl⟩
      refine ⟨rfl, (HT.out.then_below' hb2).trans (h1.setStruct 9 (.int .i64 (x.clock + 1)) { x with clock := x.clock + 1, boxes := x.boxes.set i { y with name := nl, parent := parent } } rfl rfl rfl rfl), ?_⟩
      exact ((Blk.new wb 3 #[.int .i64 id]).heap e0).far (p := ⟨g, 9, none⟩) (by show wb.heap.size ≠ g; omega) _
    have htu : ∀ (W : World) (B : Nat), StoreAt W g q { x with clock := x.clock + 1, boxes := x.boxes.set i { y with name := nl, parent := parent } } → Blk W B 3 #[.int .i64 id] → Calls Tryz.prog 59 #[.pointer (some ⟨g, 0, none⟩), .int .i64 (x.clock + 1), .slice (some ⟨B, 0, none⟩) 1 1] W fun e w' => ∃ A8 c8 h8, e = .returned (.slice A8 1 c8) ∧ Turned W w' g q { x with clock := x.clock + 1, boxes := turnBoxes (x.clock + 1) [id] (x.boxes.set i { y with name := nl, parent := parent }) } q ∧ ∀ W2, Below w'.heap.size w' W2 → Calls Tryz.prog 44 #[.pointer (some ⟨q.gl, 0, none⟩), .slice A8 1 c8] W2 fun e' w'' => e' = .returned (.tuple #[]) ∧ ∃ q'', Turned w' w'' g q { x with clock := x.clock + 1, boxes := turnBoxes (x.clock + 1) [id] (x.boxes.set i { y with name := nl, parent := parent }), log := x.log.add (turnEnts (x.clock + 1) [id]) } q'' ∧ h8 = h8 := fun W B hst hB => by
      refine (turned_any W g q { x with clock := x.clock + 1, boxes := x.boxes.set i { y with name := nl, parent := parent } } hst (by simp only [List.length_set]; omega) (x.clock + 1) [id] _ [] ((oneI_sl hB).reads [] (by simp)) (by simp) (fun j hj => by
        have h1 : j = id := by simpa using hj
        rw [h1]
        exact HIN.out)).mono ?_
      rintro e w' ⟨v', hh, rfl, hsl, hfr, ht⟩
      have hsl1 : Sl w' 117 4 v' hh 1 (flatE (turnEnts (x.clock + 1) [id])) := hsl
      obtain ⟨A8, c8, rfl, _, _⟩ := hsl1.form
      refine ⟨A8, c8, hh, rfl, ht, fun W2 hb => ?_⟩
      have hsl2 : Sl W2 117 4 (.slice A8 1 c8) hh 1 (flatE (turnEnts (x.clock + 1) [id])) := hsl1.keep (fun b hb2 => hb.block b (hsl1.lt b hb2))
      have hlm := HFI.out.log
      have hlc := HFI.out.cfg.log
      refine (addReady (ht.at_.later hb) (by show 1 ≤ x.log.most; omega) (by show x.log.most ≤ _; omega) (by show x.log.es.length ≤ _; omega) hsl2 rfl (by omega) (fun k hk hm => ?_)).mono ?_
      · have h7 := hfr k hk
        have h8 := hst.lt k hm
        omega
      · rintro e' w'' ⟨rfl, q'', ht2⟩
        exact ⟨rfl, q'', (Turned.of_below ht.at_ hb).trans ht2, rfl⟩
    have HS1 := Lib.hid hs1
    have HS2 := Lib.hid hs2
    have HTU := Lib.hid htu
    clear hs1 hs2 htu
    go_upto_region 19 with (fail)
    go_cut [] (fun wx => ∃ q'', Hid (Turned w wx g q { x with clock := x.clock + 1, boxes := turnBoxes (x.clock + 1) [id] (x.boxes.set i { y with name := nl, parent := parent }), log := x.log.add (turnEnts (x.clock + 1) [id]) } q''))
    case first =>
      go_region_law (first
        | (refine step_call (by rfl) (by rfl) (enters_of Tryz.func56 (by kernel_rfl) rfl) (by first | (simp [Act.eval]; done) | simp [Act.eval, Act.put]) (HS1.out _ rfl rfl rfl rfl) ?_; rintro e w9 ⟨rfl, ht9⟩; refine ⟨_, rfl, ?_⟩; have d12 : w9.cell? ⟨g, 12, none⟩ = some (.pointer (some ⟨q.gl, 0, none⟩)) := ht9.at_.cell12; have hg9 : g < w9.heap.size := ht9.at_.blk.lt; have d12a := (World.cell?_alloc_lt w9 (.cells #[.int .i64 id] 3) ⟨g, 12, none⟩ hg9).trans d12; have hnx := fun W (hb : Below (w9.alloc (.cells #[.int .i64 id] 3)).heap.size (w9.alloc (.cells #[.int .i64 id] 3)) W) => HTU.out W w9.heap.size (ht9.at_.later (below_then (below_alloc1 w9 _) hb)) ((Blk.new w9 3 #[.int .i64 id]).below hb (Blk.new w9 3 #[.int .i64 id]).lt); have htn := fun W (hb : Below (w9.alloc (.cells #[.int .i64 id] 3)).heap.size (w9.alloc (.cells #[.int .i64 id] 3)) W) => ht9.then_below' (below_then (below_alloc1 w9 _) hb); have HNX := Lib.hid hnx; have HTN := Lib.hid htn; clear hnx htn ht9)
        | (refine step_call (by rfl) (by rfl) (enters_of Tryz.func56 (by kernel_rfl) rfl) (by first | (simp [Act.eval]; done) | simp [Act.eval, Act.put]) (HS2.out _ rfl rfl rfl rfl) ?_; rintro e w9 ⟨rfl, ht9, hbk⟩; refine ⟨_, rfl, ?_⟩; have d12 : w9.cell? ⟨g, 12, none⟩ = some (.pointer (some ⟨q.gl, 0, none⟩)) := ht9.at_.cell12; have hnx := fun W (hb : Below w9.heap.size w9 W) => HTU.out W wb.heap.size (ht9.at_.later hb) (hbk.below hb hbk.lt); have htn := fun W (hb : Below w9.heap.size w9 W) => ht9.then_below' hb; have HNX := Lib.hid hnx; have HTN := Lib.hid htn; clear hnx htn ht9)
        | (refine step_call (by rfl) (by rfl) (enters_of Tryz.func59 (by kernel_rfl) rfl) (by first | (simp [Act.eval]; done) | simp [Act.eval, Act.put]) (HNX.out _ ⟨rfl, rfl, rfl, Nat.le_refl _, fun _ _ => rfl⟩) ?_; rintro e w10 ⟨A8, c8, h8, rfl, ht10, hadd⟩; refine ⟨_, rfl, ?_⟩; have ht11 := (HTN.out _ ⟨rfl, rfl, rfl, Nat.le_refl _, fun _ _ => rfl⟩).trans ht10; have k12 : w10.cell? ⟨g, 12, none⟩ = some (.pointer (some ⟨q.gl, 0, none⟩)) := ht11.at_.cell12; have HADD := Lib.hid hadd; have HT11 := Lib.hid ht11; clear ht10 ht11 hadd)
        | (refine step_call (by rfl) (by rfl) (enters_of Tryz.func44 (by kernel_rfl) rfl) (by first | (simp [Act.eval]; done) | simp [Act.eval, Act.put]) (HADD.out _ ⟨rfl, rfl, rfl, Nat.le_refl _, fun _ _ => rfl⟩) ?_; rintro e w12 ⟨rfl, q12, ht12, _⟩; refine ⟨_, rfl, ?_⟩; have HT12 := Lib.hid ht12; clear ht12)
        | fail)
      all_goals
        go_wp2_with fail
        go_meet
        exact ⟨q12, Lib.hid (HT11.out.trans HT12.out)⟩
    case rest =>
      obtain ⟨q'', HT13⟩ := hcut
      obtain ⟨wz, rfl⟩ : ∃ wz : World, wz = wc := ⟨_, rfl⟩
      have HFIN : Hid (ErrOut w g q rr (.returned (.int .i64 0)) wz) := Lib.hid (by
        rw [HRES.out]
        exact ⟨rfl, q'', HT13.out⟩)
      clear HT13 c12 c12a
      go_wp2_with fail
      go_ret
      exact HFIN.out

set_option maxRecDepth 100000 in
set_option maxHeartbeats 4000000 in
theorem rename_ok3 (w : World) (g : Nat) (q : Lies) (x : Acc) (id : Int) (nl : Text) (parent : Int) (h : StoreAt w g q x) (hf : Fit x) (hnl : nl.length ≤ 1099511627776) (i : Nat) (hi : i < x.boxes.length) (hpl : boxOf id x.boxes = (i : Int)) (hfi : x.boxes.find? (fun b => decide (b.id = id)) = some x.boxes[i]) (hr : rightU nl = true) (h1 : ¬ id = 1) (hnm : namedP x nl parent id = 0) (hun : underP x.boxes id (x.boxes.length + 1) parent = false) (hset : ∀ f, setBox id f x.boxes = x.boxes.set i (f x.boxes[i])) (hyid : x.boxes[i].id = id) (hn1 : ¬ x.boxes[i].name = nl) (hen : ¬ x.cfg.maxMod ≤ x.clock) :
    Calls Tryz.prog 29 #[.pointer (some ⟨g, 0, none⟩), .int .i64 id, .string ⟨nl.toArray⟩, .int .i64 parent] w (ErrOut w g q (renameP rightU x id nl parent)) := by
  obtain ⟨rr, hrr⟩ : ∃ rr, renameP rightU x id nl parent = rr := ⟨_, rfl⟩
  have hres : rr = ({ x with clock := x.clock + 1, boxes := turnBoxes (x.clock + 1) [id] (x.boxes.set i { x.boxes[i] with name := nl, parent := parent }), log := x.log.add (turnEnts (x.clock + 1) [id]) }, 0) := by
    rw [← hrr]
    unfold renameP
    rw [hfi]
    simp only
    rw [if_neg (by rw [hr]; simp [h1])]
    rw [if_neg (by rw [hnm]; decide)]
    rw [if_neg (by rw [hun]; decide)]
    rw [if_neg (fun hh => hn1 hh.1)]
    rw [if_neg (by simp [Acc.ends]; omega), hset]
  rw [hrr]
  clear hset hrr
  have hbn : x.boxes.length ≤ 1099511627775 := by have := hf.nb; have := hf.clock; have := hf.cfg.mod; omega
  have hbc := box_any g q.vb [] x.boxes id w h.cell10 (h.boxes.reads [] (by simp)) (by omega)
  have H := Lib.hid h
  have HFI := Lib.hid hf
  rw [hpl] at hbc
  have hi3 : ¬ (i : Int) < 0 := by omega
  have hri := fun W => tright_any ⟨nl.toArray⟩ (by show nl.toArray.size ≤ _; simp; omega) W
  rw [show rightU (⟨nl.toArray⟩ : ByteArray).data.toList = true from hr] at hri
  have hna := fun W (hb : Below w.heap.size w W) => named_any W g q x (h.later hb) (by omega) nl (by omega) parent id
  obtain ⟨b, off, cap, hv, _, hnc, hcm, _, _⟩ := h.boxAt i hi
  obtain ⟨n, hnn⟩ : ∃ n, x.boxes.length = n := ⟨_, rfl⟩
  have hv2 := hv
  rw [hnn] at hv2
  have hi1 : (i : Int) < (n : Int) := by omega
  have hi2 : (0 : Int) ≤ (i : Int) := by omega
  have hnb : n ≤ 1099511627775 := by omega
  obtain ⟨y, hy⟩ : ∃ y, x.boxes[i] = y := ⟨_, rfl⟩
  have hat : ∀ W, Below w.heap.size w W → W.cell? ⟨g, 10, none⟩ = some (.slice (some ⟨b, off, none⟩) n cap) ∧ W.cell? ⟨b, off + i * 6 + 1, none⟩ = some (.string ⟨y.name.toArray⟩) ∧ W.cell? ⟨b, off + i * 6 + 2, none⟩ = some (.int .i64 y.parent) := fun W hb => by
    have h5 := h.later hb
    obtain ⟨b', off', cap', hv', _, _, _, _, hat'⟩ := h5.boxAt i hi
    have h6 := hv.symm.trans hv'
    injection h6 with e1 e2 e3
    injection e1 with e1
    injection e1 with e1 e4
    subst e1 e4 e3
    refine ⟨by rw [h5.cell10, hv2], ((hat' 1 (by omega)).1).trans (by rw [hy]; rfl), ((hat' 2 (by omega)).1).trans (by rw [hy]; rfl)⟩
  have HAT := Lib.hid hat
  rw [hy] at hn1
  have hqn : (y.name == nl) = false := by simpa using hn1
  clear hn1
  rw [hy] at hyid hres
  have hin : id ∈ ids (x.boxes.set i { y with name := nl, parent := parent }) := by
    rw [ids_set hi (by rw [hy])]
    exact List.mem_map.2 ⟨x.boxes[i], List.getElem_mem hi, by rw [hy]; exact hyid⟩
  have HIN := Lib.hid hin
  have HRES := Lib.hid hres
  have hcl := hf.clock
  have hmd := hf.cfg.mod
  rw [hnm] at hna
  have hun2 := fun W (hb : Below w.heap.size w W) => under_any q.vb [] x.boxes parent id W ((h.later hb).boxes.reads [] (by simp)) hbn
  rw [hun, hv2] at hun2
  have hq : (id == 1) = false := by simpa using h1
  have HNA := Lib.hid hna
  have HUN := Lib.hid hun2
  have HV2 := Lib.hid hv2
  have HNN := Lib.hid hnn
  have HY := Lib.hid hy
  clear hr hpl hfi h1 hna hnm hun hun2 hv hv2 hat hnn hy hres h hf hyid hin
  go_enter Tryz.func29, Tryz.ntmps29
  go_upto_region 18 with (first
    | (go_at_call 74; refine hbc.mono ?_; rintro e w1 ⟨rfl, hb1⟩; have HB1 := Lib.hid hb1; clear hb1 hbc)
    | (go_at_call 69; refine (hri w1).mono ?_; rintro e w2 ⟨rfl, hb2⟩; have HB2 := Lib.hid (below_then HB1.out hb2); clear hb2 hri)
    | (go_at_call 70; refine (HNA.out w2 HB2.out).mono ?_; rintro e w3 ⟨rfl, hb3⟩; have HB3 := Lib.hid (below_then HB2.out hb3); clear hb3; obtain ⟨k10, _, _⟩ := HAT.out w3 HB3.out)
    | (go_at_call 75; refine (HUN.out w3 HB3.out).mono ?_; rintro e w4 ⟨rfl, hb4⟩; have HB4 := Lib.hid (below_then HB3.out hb4); clear hb4 HUN; obtain ⟨m10, m1, m2⟩ := HAT.out w4 HB4.out; have c6 : w4.cell? ⟨g, 6, none⟩ = some (.int .i64 x.cfg.maxMod) := (H.out.later HB4.out).cells 6; have c9 := (H.out.later HB4.out).cell9)
    | (go_at_call 53; refine (ends_any g x.clock x.cfg.maxMod _ ((cell_heap (w := w4) (by rfl) _).trans c9) ((cell_heap (w := w4) (by rfl) _).trans c6)).mono ?_; rintro e w5 ⟨rfl, ne, rfl⟩; have hb5 := (below_then HB4.out (below_drewN' (Below.refl w4.heap.size w4) ne)); have HB5 := Lib.hid hb5; clear hb5)
    | fail)
  obtain ⟨wa, hwa⟩ : ∃ wa : World, wa = w4.drewN ne := ⟨_, rfl⟩
  rw [← hwa]
  have hba : Below w.heap.size w wa := by rw [hwa]; exact HB5.out
  have HBA := Lib.hid hba
  clear hwa k10 m10 m1 m2 c6 c9
  obtain ⟨c10, _, _⟩ := HAT.out wa hba
  have HST := Lib.hid (H.out.later hba)
  have hv3 : q.vb = .slice (some ⟨b, off, none⟩) x.boxes.length cap := by rw [HNN.out]; exact HV2.out
  obtain ⟨b', off', cap', hv', _, _, _, hbl, hat'⟩ := HST.out.boxAt i hi
  have h6 := hv3.symm.trans hv'
  injection h6 with e1 e2 e3
  injection e1 with e1
  injection e1 with e1 e4
  subst e1 e4 e3
  have f1 := (hat' 1 (by omega)).2
  have f2 := (hat' 2 (by omega)).2
  have c1 : wa.cell? ⟨b, off + i * 6 + 1, none⟩ = some (.string ⟨y.name.toArray⟩) := ((hat' 1 (by omega)).1).trans (by rw [HY.out]; rfl)
  have c2 : wa.cell? ⟨b, off + i * 6 + 2, none⟩ = some (.int .i64 y.parent) := ((hat' 2 (by omega)).1).trans (by rw [HY.out]; rfl)
  have hset1 : ∀ W : World, W.heap = wa.heap → W.os = wa.os → W.tape = wa.tape → W.output = wa.output → Turned w ((W.setCell ⟨b, off + i * 6 + 1, none⟩ (.string ⟨nl.toArray⟩)).setCell ⟨b, off + i * 6 + 2, none⟩ (.int .i64 parent)) g q { x with boxes := x.boxes.set i { y with name := nl, parent := parent } } q ∧ Turned w ((W.setCell ⟨b, off + i * 6 + 2, none⟩ (.int .i64 parent)).setCell ⟨b, off + i * 6 + 1, none⟩ (.string ⟨nl.toArray⟩)) g q { x with boxes := x.boxes.set i { y with name := nl, parent := parent } } q := fun W e0 e1 e2 e3 => by
    have hb : Below wa.heap.size wa W := ⟨e1, e2, e3, Nat.le_of_eq (by rw [e0]), fun _ _ => by rw [e0]⟩
    have hb2 := below_then HBA.out hb
    have hT := Turned.of_below H.out hb2
    have hs := H.out.later hb2
    constructor
    · have t1 := hs.setBoxCell hv3 i hi 1 (by omega) (.string ⟨nl.toArray⟩) { y with name := nl } (by rw [HY.out]; rfl)
      have t2 := t1.at_.setBoxCell (by show q.vb = .slice (some ⟨b, off, none⟩) x.boxes.length cap; exact hv3) i (by simpa using hi) 2 (by omega) (.int .i64 parent) { y with name := nl, parent := parent } (by simp [encB, strV])
      have t3 := (hT.trans t1).trans t2
      rw [show (x.boxes.set i { y with name := nl }).set i { y with name := nl, parent := parent } = x.boxes.set i { y with name := nl, parent := parent } from by rw [List.set_set]] at t3
      exact t3
    · have t1 := hs.setBoxCell hv3 i hi 2 (by omega) (.int .i64 parent) { y with parent := parent } (by rw [HY.out]; rfl)
      have t2 := t1.at_.setBoxCell (by show q.vb = .slice (some ⟨b, off, none⟩) x.boxes.length cap; exact hv3) i (by simpa using hi) 1 (by omega) (.string ⟨nl.toArray⟩) { y with name := nl, parent := parent } (by simp [encB, strV])
      have t3 := (hT.trans t1).trans t2
      rw [show (x.boxes.set i { y with parent := parent }).set i { y with name := nl, parent := parent } = x.boxes.set i { y with name := nl, parent := parent } from by rw [List.set_set]] at t3
      exact t3
  have HSET := Lib.hid hset1
  clear hat' hv' hv3 hset1 hba
  go_cut [] (fun wx => Hid (Turned w wx g q { x with boxes := x.boxes.set i { y with name := nl, parent := parent } } q))
  case first =>
    go_region_law (first
      | fail)
    all_goals
      go_wp2_with fail
      go_meet
      first
        | exact Lib.hid (HSET.out wa.drew rfl rfl rfl rfl).1
        | exact Lib.hid (HSET.out wa.drew rfl rfl rfl rfl).2
  case rest =>
    have HT := hcut
    clear hcut
    obtain ⟨wb, rfl⟩ : ∃ wb : World, wb = wc := ⟨_, rfl⟩
    clear c10 c1 c2 f1 f2 hbl
    have c12 : wb.cell? ⟨g, 12, none⟩ = some (.pointer (some ⟨q.gl, 0, none⟩)) := HT.out.at_.cell12
    have hgl : g < wb.heap.size := HT.out.at_.blk.lt
    have c12a := (World.cell?_alloc_lt wb (.cells #[.int .i64 id] 3) ⟨g, 12, none⟩ hgl).trans c12
    have hs1 : ∀ W : World, W.heap = wb.heap → W.os = wb.os → W.tape = wb.tape → W.output = wb.output → Calls Tryz.prog 56 #[.pointer (some ⟨g, 0, none⟩)] W fun e w' => e = .returned (.int .i64 (x.clock + 1)) ∧ Turned w w' g q { x with clock := x.clock + 1, boxes := x.boxes.set i { y with name := nl, parent := parent } } q := fun W e0 e1 e2 e3 => by
      have hb : Below wb.heap.size wb W := ⟨e1, e2, e3, Nat.le_of_eq (by rw [e0]), fun _ _ => by rw [e0]⟩
      have h1 := HT.out.at_.later hb
      refine (step_any g x.clock W h1.cell9 (h1.frozen 9) (by omega)).mono ?_
      rintro e w' ⟨rfl, rfl⟩
      exact ⟨rfl, (HT.out.then_below' hb).trans (h1.setStruct 9 (.int .i64 (x.clock + 1)) { x with clock := x.clock + 1, boxes := x.boxes.set i { y with name := nl, parent := parent } } rfl rfl rfl rfl)⟩
    have hs2 : ∀ W : World, W.heap = (wb.alloc (.cells #[.int .i64 id] 3)).heap → W.os = wb.os → W.tape = wb.tape → W.output = wb.output → Calls Tryz.prog 56 #[.pointer (some ⟨g, 0, none⟩)] W fun e w' => e = .returned (.int .i64 (x.clock + 1)) ∧ Turned w w' g q { x with clock := x.clock + 1, boxes := x.boxes.set i { y with name := nl, parent := parent } } q ∧ Blk w' wb.heap.size 3 #[.int .i64 id] := fun W e0 e1 e2 e3 => by
      have hb : Below (wb.alloc (.cells #[.int .i64 id] 3)).heap.size (wb.alloc (.cells #[.int .i64 id] 3)) W := ⟨e1, e2, e3, Nat.le_of_eq (by rw [e0]), fun _ _ => by rw [e0]⟩
      have hb2 := below_then (below_alloc1 wb _) hb
      have h1 := HT.out.at_.later hb2
      refine (step_any g x.clock W h1.cell9 (h1.frozen 9) (by omega)).mono ?_
      rintro e w' ⟨rfl, rfl⟩
      refine ⟨rfl, (HT.out.then_below' hb2).trans (h1.setStruct 9 (.int .i64 (x.clock + 1)) { x with clock := x.clock + 1, boxes := x.boxes.set i { y with name := nl, parent := parent } } rfl rfl rfl rfl), ?_⟩
      exact ((Blk.new wb 3 #[.int .i64 id]).heap e0).far (p := ⟨g, 9, none⟩) (by show wb.heap.size ≠ g; omega) _
    have htu : ∀ (W : World) (B : Nat), StoreAt W g q { x with clock := x.clock + 1, boxes := x.boxes.set i { y with name := nl, parent := parent } } → Blk W B 3 #[.int .i64 id] → Calls Tryz.prog 59 #[.pointer (some ⟨g, 0, none⟩), .int .i64 (x.clock + 1), .slice (some ⟨B, 0, none⟩) 1 1] W fun e w' => ∃ A8 c8 h8, e = .returned (.slice A8 1 c8) ∧ Turned W w' g q { x with clock := x.clock + 1, boxes := turnBoxes (x.clock + 1) [id] (x.boxes.set i { y with name := nl, parent := parent }) } q ∧ ∀ W2, Below w'.heap.size w' W2 → Calls Tryz.prog 44 #[.pointer (some ⟨q.gl, 0, none⟩), .slice A8 1 c8] W2 fun e' w'' => e' = .returned (.tuple #[]) ∧ ∃ q'', Turned w' w'' g q { x with clock := x.clock + 1, boxes := turnBoxes (x.clock + 1) [id] (x.boxes.set i { y with name := nl, parent := parent }), log := x.log.add (turnEnts (x.clock + 1) [id]) } q'' ∧ h8 = h8 := fun W B hst hB => by
      refine (turned_any W g q { x with clock := x.clock + 1, boxes := x.boxes.set i { y with name := nl, parent := parent } } hst (by simp only [List.length_set]; omega) (x.clock + 1) [id] _ [] ((oneI_sl hB).reads [] (by simp)) (by simp) (fun j hj => by
        have h1 : j = id := by simpa using hj
        rw [h1]
        exact HIN.out)).mono ?_
      rintro e w' ⟨v', hh, rfl, hsl, hfr, ht⟩
      have hsl1 : Sl w' 117 4 v' hh 1 (flatE (turnEnts (x.clock + 1) [id])) := hsl
      obtain ⟨A8, c8, rfl, _, _⟩ := hsl1.form
      refine ⟨A8, c8, hh, rfl, ht, fun W2 hb => ?_⟩
      have hsl2 : Sl W2 117 4 (.slice A8 1 c8) hh 1 (flatE (turnEnts (x.clock + 1) [id])) := hsl1.keep (fun b hb2 => hb.block b (hsl1.lt b hb2))
      have hlm := HFI.out.log
      have hlc := HFI.out.cfg.log
      refine (addReady (ht.at_.later hb) (by show 1 ≤ x.log.most; omega) (by show x.log.most ≤ _; omega) (by show x.log.es.length ≤ _; omega) hsl2 rfl (by omega) (fun k hk hm => ?_)).mono ?_
      · have h7 := hfr k hk
        have h8 := hst.lt k hm
        omega
      · rintro e' w'' ⟨rfl, q'', ht2⟩
        exact ⟨rfl, q'', (Turned.of_below ht.at_ hb).trans ht2, rfl⟩
    have HS1 := Lib.hid hs1
    have HS2 := Lib.hid hs2
    have HTU := Lib.hid htu
    clear hs1 hs2 htu
    go_upto_region 19 with (fail)
    go_cut [] (fun wx => ∃ q'', Hid (Turned w wx g q { x with clock := x.clock + 1, boxes := turnBoxes (x.clock + 1) [id] (x.boxes.set i { y with name := nl, parent := parent }), log := x.log.add (turnEnts (x.clock + 1) [id]) } q''))
    case first =>
      go_region_law (first
        | (refine step_call (by rfl) (by rfl) (enters_of Tryz.func56 (by kernel_rfl) rfl) (by first | (simp [Act.eval]; done) | simp [Act.eval, Act.put]) (HS1.out _ rfl rfl rfl rfl) ?_; rintro e w9 ⟨rfl, ht9⟩; refine ⟨_, rfl, ?_⟩; have d12 : w9.cell? ⟨g, 12, none⟩ = some (.pointer (some ⟨q.gl, 0, none⟩)) := ht9.at_.cell12; have hg9 : g < w9.heap.size := ht9.at_.blk.lt; have d12a := (World.cell?_alloc_lt w9 (.cells #[.int .i64 id] 3) ⟨g, 12, none⟩ hg9).trans d12; have hnx := fun W (hb : Below (w9.alloc (.cells #[.int .i64 id] 3)).heap.size (w9.alloc (.cells #[.int .i64 id] 3)) W) => HTU.out W w9.heap.size (ht9.at_.later (below_then (below_alloc1 w9 _) hb)) ((Blk.new w9 3 #[.int .i64 id]).below hb (Blk.new w9 3 #[.int .i64 id]).lt); have htn := fun W (hb : Below (w9.alloc (.cells #[.int .i64 id] 3)).heap.size (w9.alloc (.cells #[.int .i64 id] 3)) W) => ht9.then_below' (below_then (below_alloc1 w9 _) hb); have HNX := Lib.hid hnx; have HTN := Lib.hid htn; clear hnx htn ht9)
        | (refine step_call (by rfl) (by rfl) (enters_of Tryz.func56 (by kernel_rfl) rfl) (by first | (simp [Act.eval]; done) | simp [Act.eval, Act.put]) (HS2.out _ rfl rfl rfl rfl) ?_; rintro e w9 ⟨rfl, ht9, hbk⟩; refine ⟨_, rfl, ?_⟩; have d12 : w9.cell? ⟨g, 12, none⟩ = some (.pointer (some ⟨q.gl, 0, none⟩)) := ht9.at_.cell12; have hnx := fun W (hb : Below w9.heap.size w9 W) => HTU.out W wb.heap.size (ht9.at_.later hb) (hbk.below hb hbk.lt); have htn := fun W (hb : Below w9.heap.size w9 W) => ht9.then_below' hb; have HNX := Lib.hid hnx; have HTN := Lib.hid htn; clear hnx htn ht9)
        | (refine step_call (by rfl) (by rfl) (enters_of Tryz.func59 (by kernel_rfl) rfl) (by first | (simp [Act.eval]; done) | simp [Act.eval, Act.put]) (HNX.out _ ⟨rfl, rfl, rfl, Nat.le_refl _, fun _ _ => rfl⟩) ?_; rintro e w10 ⟨A8, c8, h8, rfl, ht10, hadd⟩; refine ⟨_, rfl, ?_⟩; have ht11 := (HTN.out _ ⟨rfl, rfl, rfl, Nat.le_refl _, fun _ _ => rfl⟩).trans ht10; have k12 : w10.cell? ⟨g, 12, none⟩ = some (.pointer (some ⟨q.gl, 0, none⟩)) := ht11.at_.cell12; have HADD := Lib.hid hadd; have HT11 := Lib.hid ht11; clear ht10 ht11 hadd)
        | (refine step_call (by rfl) (by rfl) (enters_of Tryz.func44 (by kernel_rfl) rfl) (by first | (simp [Act.eval]; done) | simp [Act.eval, Act.put]) (HADD.out _ ⟨rfl, rfl, rfl, Nat.le_refl _, fun _ _ => rfl⟩) ?_; rintro e w12 ⟨rfl, q12, ht12, _⟩; refine ⟨_, rfl, ?_⟩; have HT12 := Lib.hid ht12; clear ht12)
        | fail)
      all_goals
        go_wp2_with fail
        go_meet
        exact ⟨q12, Lib.hid (HT11.out.trans HT12.out)⟩
    case rest =>
      obtain ⟨q'', HT13⟩ := hcut
      obtain ⟨wz, rfl⟩ : ∃ wz : World, wz = wc := ⟨_, rfl⟩
      have HFIN : Hid (ErrOut w g q rr (.returned (.int .i64 0)) wz) := Lib.hid (by
        rw [HRES.out]
        exact ⟨rfl, q'', HT13.out⟩)
      clear HT13 c12 c12a
      go_wp2_with fail
      go_ret
      exact HFIN.out

theorem rename_said (w : World) (g : Nat) (q : Lies) (x : Acc) (id : Int) (nl : Text) (parent : Int) (h : StoreAt w g q x) (hf : Fit x) (hnl : nl.length ≤ 1099511627776) :
    Calls Tryz.prog 29 #[.pointer (some ⟨g, 0, none⟩), .int .i64 id, .string ⟨nl.toArray⟩, .int .i64 parent] w (ErrOut w g q (renameP rightU x id nl parent)) := by
  cases h0 : hasBox x.boxes id with
  | false => exact rename_none w g q x id nl parent h hf hnl h0
  | true =>
    obtain ⟨i, hi, hpl, hyid, _, hset, hfi⟩ := box_at ((hasBox_iff x.boxes id).1 h0)
    cases hr : rightU nl with
    | false => exact rename_bad w g q x id nl parent h hf hnl i hi hpl hfi hr
    | true =>
      by_cases h1 : id = 1
      · exact rename_one w g q x id nl parent h hf hnl i hi hpl hfi hr h1
      by_cases hnm : namedP x nl parent id = 0
      case neg => exact rename_named w g q x id nl parent h hf hnl i hi hpl hfi hr h1 hnm
      cases hun : underP x.boxes id (x.boxes.length + 1) parent with
      | true => exact rename_under w g q x id nl parent h hf hnl i hi hpl hfi hr h1 hnm hun
      | false =>
        by_cases hn1 : x.boxes[i].name = nl
        · by_cases hp1 : x.boxes[i].parent = parent
          · exact rename_same w g q x id nl parent h hf hnl i hi hpl hfi hr h1 hnm hun hn1 hp1
          · by_cases hen : x.cfg.maxMod ≤ x.clock
            · exact rename_ends2 w g q x id nl parent h hf hnl i hi hpl hfi hr h1 hnm hun hn1 hp1 hen
            · exact rename_ok2 w g q x id nl parent h hf hnl i hi hpl hfi hr h1 hnm hun hset hyid hn1 hp1 hen
        · by_cases hen : x.cfg.maxMod ≤ x.clock
          · exact rename_ends3 w g q x id nl parent h hf hnl i hi hpl hfi hr h1 hnm hun hn1 hen
          · exact rename_ok3 w g q x id nl parent h hf hnl i hi hpl hfi hr h1 hnm hun hset hyid hn1 hen

end Go.Proofs.YtmbibhphpjmboaaGreatDoor
