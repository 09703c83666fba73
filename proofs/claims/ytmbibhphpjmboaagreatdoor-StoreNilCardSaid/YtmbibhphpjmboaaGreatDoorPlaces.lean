/-
  The walks of the store's own searches: a mailbox, an email, by its Id.
-/
import Derived.Test.YtmbibhphpjmboaaGreatDoorIdx
namespace Go.Proofs.YtmbibhphpjmboaaGreatDoor
open Go.Shelf Go.RowKit Go.Lib
attribute [local go_sem ↓] Go.wp_at_zero Go.wp_at_succ

theorem boxPred_any (id : Int) (B : Nat) (w W : World) (x : BoxP) (hB : w.cell? ⟨B, 0, none⟩ = some (.int .i64 id)) (hb : Below w.heap.size w W) :
    Calls Tryz.prog 129 (#[.agg (encB x).toArray] ++ #[.pointer (some ⟨B, 0, none⟩)]) W fun e w' => e = .returned (.bool (decide (x.id = id))) ∧ Below w.heap.size w w' := by
  have hlt := World.block_lt_of_cell? _ _ hB
  have hc := (hb.cell (p := ⟨B, 0, none⟩) hlt).trans hB
  have hlt2 : B < W.heap.size := Nat.lt_of_lt_of_le hlt hb.size
  obtain ⟨i, nm, pa, va, ne, mo⟩ := x
  show Calls Tryz.prog 129 #[.agg #[.int .i64 i, .string ⟨nm.toArray⟩, .int .i64 pa, .int .i64 va, .int .i64 ne, .int .i64 mo], .pointer (some ⟨B, 0, none⟩)] W _
  have hc2 : (W.alloc (.cells #[.int .i64 i, .string ⟨nm.toArray⟩, .int .i64 pa, .int .i64 va, .int .i64 ne, .int .i64 mo] 52)).cell? ⟨B, 0, none⟩ = some (.int .i64 id) := (World.cell?_alloc_lt W _ _ hlt2).trans hc
  have HB := Lib.hid hb
  clear hb hc hB
  by_cases hi : i = id
  · subst hi
    simp only [decide_true]
    go_enter Tryz.func129, Tryz.ntmps129
    go_wp2
    go_ret
    exact ⟨rfl, HB.out.alloc HB.out.size _⟩
  · have e : (i == id) = false := by simpa using hi
    have e2 : decide (i = id) = false := decide_eq_false hi
    simp only [e2]
    clear e2 hi
    go_enter Tryz.func129, Tryz.ntmps129
    go_wp2
    go_ret
    exact ⟨rfl, HB.out.alloc HB.out.size _⟩

theorem mailPred_any (id : Int) (B : Nat) (w W : World) (x : MailM) (hB : w.cell? ⟨B, 0, none⟩ = some (.int .i64 id)) (hb : Below w.heap.size w W) :
    Calls Tryz.prog 123 (#[.agg (encM x).toArray] ++ #[.pointer (some ⟨B, 0, none⟩)]) W fun e w' => e = .returned (.bool (decide (x.p.id = id))) ∧ Below w.heap.size w w' := by
  have hlt := World.block_lt_of_cell? _ _ hB
  have hc := (hb.cell (p := ⟨B, 0, none⟩) hlt).trans hB
  have hlt2 : B < W.heap.size := Nat.lt_of_lt_of_le hlt hb.size
  obtain ⟨⟨i, th, tx, ta, ks, me, mo, bo⟩, kv, mv⟩ := x
  show Calls Tryz.prog 123 #[.agg #[.int .i64 i, .int .i64 th, .string ⟨tx.toArray⟩, .int .i64 ta, kv, mv, .int .i64 mo, .int .i64 bo], .pointer (some ⟨B, 0, none⟩)] W _
  have hc2 : (W.alloc (.cells #[.int .i64 i, .int .i64 th, .string ⟨tx.toArray⟩, .int .i64 ta, kv, mv, .int .i64 mo, .int .i64 bo] 40)).cell? ⟨B, 0, none⟩ = some (.int .i64 id) := (World.cell?_alloc_lt W _ _ hlt2).trans hc
  have HB := Lib.hid hb
  clear hb hc hB
  by_cases hi : i = id
  · subst hi
    simp only [decide_true]
    go_enter Tryz.func123, Tryz.ntmps123
    go_wp2
    go_ret
    exact ⟨rfl, HB.out.alloc HB.out.size _⟩
  · have e : (i == id) = false := by simpa using hi
    have e2 : decide (i = id) = false := decide_eq_false hi
    simp only [e2]
    clear e2 hi
    go_enter Tryz.func123, Tryz.ntmps123
    go_wp2
    go_ret
    exact ⟨rfl, HB.out.alloc HB.out.size _⟩

/-- The place of a mailbox. -/
theorem box_any (g : Nat) (v : Value) (S : List Nat) (l : List BoxP) (id : Int) (w : World) (hg : w.cell? ⟨g, 10, none⟩ = some v) (hr : RdS w S 6 v l.length (flatG encB l)) (hn : l.length ≤ 1099511627776) :
    Calls Tryz.prog 74 #[.pointer (some ⟨g, 0, none⟩), .int .i64 id] w fun e w' => e = .returned (.int .i64 (boxOf id l)) ∧ Below w.heap.size w w' := by
  have hgl := World.block_lt_of_cell? _ _ hg
  have hw1 : (w.alloc (.cells #[.int .i64 id] 3)).cell? ⟨w.heap.size, 0, none⟩ = some (.int .i64 id) := (World.cell?_alloc_at _ _ _ _ rfl).trans rfl
  have hg1 : (w.alloc (.cells #[.int .i64 id] 3)).cell? ⟨g, 10, none⟩ = some v := (World.cell?_alloc_lt w _ _ hgl).trans hg
  have eg : ∀ args W, (callFunc 129 args).run Tryz.prog W = .ok (.enter 129 args) W := enters_of Tryz.func129 (by kernel_rfl) rfl
  have hc := idxB_any v S l (fun b => decide (b.id = id)) 129 #[.pointer (some ⟨w.heap.size, 0, none⟩)] eg (w.alloc (.cells #[.int .i64 id] 3)) (hr.below ((Below.refl _ w).alloc (Nat.le_refl _) _)) hn
    (fun W hb x _ => boxPred_any id _ _ W x hw1 hb)
  have hc2 : Calls Tryz.prog 128 #[v, .func (.func 129) #[] #[.pointer (some ⟨w.heap.size, 0, none⟩)]] (w.alloc (.cells #[.int .i64 id] 3)) fun e w' => e = .returned (.int .i64 (boxOf id l)) ∧ Below (w.alloc (.cells #[.int .i64 id] 3)).heap.size (w.alloc (.cells #[.int .i64 id] 3)) w' := hc
  generalize boxOf id l = r at hc2
  clear hc eg hr hw1 hg hn
  go_enter Tryz.func74, Tryz.ntmps74
  go_wp2_with (first
    | (go_at_call 128; refine hc2.mono ?_; rintro e w2 ⟨rfl, hb⟩)
    | fail)
  go_ret
  exact ⟨rfl, ((Below.refl _ _).alloc (Nat.le_refl _) _).trans (hb.mono (by simp))⟩

/-- The place of an email. -/
theorem mail_any (g : Nat) (v : Value) (S : List Nat) (l : List MailM) (id : Int) (w : World) (hg : w.cell? ⟨g, 11, none⟩ = some v) (hr : RdS w S 8 v l.length (flatG encM l)) (hn : l.length ≤ 1099511627776) :
    Calls Tryz.prog 63 #[.pointer (some ⟨g, 0, none⟩), .int .i64 id] w fun e w' => e = .returned (.int .i64 (place (fun m => decide (m.p.id = id)) l)) ∧ Below w.heap.size w w' := by
  have hgl := World.block_lt_of_cell? _ _ hg
  have hw1 : (w.alloc (.cells #[.int .i64 id] 3)).cell? ⟨w.heap.size, 0, none⟩ = some (.int .i64 id) := (World.cell?_alloc_at _ _ _ _ rfl).trans rfl
  have hg1 : (w.alloc (.cells #[.int .i64 id] 3)).cell? ⟨g, 11, none⟩ = some v := (World.cell?_alloc_lt w _ _ hgl).trans hg
  have eg : ∀ args W, (callFunc 123 args).run Tryz.prog W = .ok (.enter 123 args) W := enters_of Tryz.func123 (by kernel_rfl) rfl
  have hc := idxM_any v S l (fun m => decide (m.p.id = id)) 123 #[.pointer (some ⟨w.heap.size, 0, none⟩)] eg (w.alloc (.cells #[.int .i64 id] 3)) (hr.below ((Below.refl _ w).alloc (Nat.le_refl _) _)) hn
    (fun W hb x _ => mailPred_any id _ _ W x hw1 hb)
  generalize place (fun m : MailM => decide (m.p.id = id)) l = r at hc
  clear eg hr hw1 hg hn
  go_enter Tryz.func63, Tryz.ntmps63
  go_wp2_with (first
    | (go_at_call 122; refine hc.mono ?_; rintro e w2 ⟨rfl, hb⟩)
    | fail)
  go_ret
  exact ⟨rfl, ((Below.refl _ _).alloc (Nat.le_refl _) _).trans (hb.mono (by simp))⟩

end Go.Proofs.YtmbibhphpjmboaaGreatDoor
