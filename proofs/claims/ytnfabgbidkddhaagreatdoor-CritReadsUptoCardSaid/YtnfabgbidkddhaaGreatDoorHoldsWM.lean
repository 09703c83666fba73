/-
  The walks of seek's opened and Holds: whether a filter holds of an email.
-/
import Derived.Test.YtnfabgbidkddhaaGreatDoorHoldWM
namespace Go.Proofs.YtnfabgbidkddhaaGreatDoor
open Go.RowKit
attribute [local go_sem ↓] Go.wp_at_zero Go.wp_at_succ

theorem linesF_pos : ∀ (f : Nat) (s : List UInt8) (p : Nat), ∀ x ∈ linesF f s p, x.2 ≤ p + s.length
  | 0, _, _ => by simp [linesF]
  | f + 1, s, p => by
    unfold linesF
    split
    · simp
    · split
      · simp
      · rename_i h2
        have h1 := linesF_pos f (s.drop ((Lib.indexByte s 10).toNat + 1)) (p + ((Lib.indexByte s 10).toNat + 1))
        have h4 := indexByte_lt s 10 h2
        simp only [List.length_drop] at h1
        intro x hx
        rcases List.mem_cons.1 hx with rfl | hx
        · show p + _ ≤ _
          omega
        · have := h1 x hx
          omega
theorem gatherF_pos : ∀ (l : List (List UInt8 × Nat)) (g : List (List UInt8)) (b n : Nat), b ≤ n → (∀ x ∈ l, x.2 ≤ n) → (gatherF l g b).2 ≤ n
  | [], _, _, _, hb, _ => hb
  | (t, p) :: r, g, b, n, hb, h => by
    unfold gatherF
    split
    · exact h (t, p) (by simp)
    · exact gatherF_pos r _ b n hb (fun x hx => h x (by simp [hx]))
theorem splitF_pos (s : List UInt8) : (splitF s).2 ≤ s.length :=
  gatherF_pos _ [] _ _ (Nat.le_refl _) (fun x hx => by have := linesF_pos s.length s 0 x hx; omega)
theorem drop_text (s : List UInt8) (k : Nat) : (ByteArray.mk s.toArray).extract k (ByteArray.mk s.toArray).size = ⟨(s.drop k).toArray⟩ := by
  apply ByteArray.ext
  rw [ByteArray.data_extract]
  simp [ByteArray.size]
  exact List.take_of_length_le (by simp)

set_option maxRecDepth 100000 in
theorem opened_anyH (w : World) (e : Em) (id th born : Int) (kv mv : Value) (hs : e.text.length ≤ 2147483648) (hk : RdS w [] 1 kv e.keys.length (keysV e.keys)) (hm : RdS w [] 2 mv e.mem.length (flatR e.mem)) :
    Calls Tryz.prog 23 #[.agg #[.int .i64 id, .int .i64 th, .string ⟨e.text.toArray⟩, .int .i64 e.sec, kv, mv, .int .i64 e.mod, .int .i64 born]] w fun en w' => ∃ g, en = .returned (.pointer (some ⟨g, 0, none⟩)) ∧ EmAt w' g e ∧ Below w.heap.size w w' := by
  have hsp := fun W => splitFd_any e.text hs W
  obtain ⟨Ak, ck, rfl, _, _⟩ := hk.form
  obtain ⟨Am, cm, rfl, _, _⟩ := hm.form
  have htl : (ByteArray.mk e.text.toArray).size = e.text.length := by simp [ByteArray.size]
  rw [← htl] at hsp
  have hps := splitF_pos e.text
  have hdt := drop_text e.text (splitF e.text).2
  have HOUT : Hid (∀ (w2 : World) (g : Nat) (fv : Value), Below w.heap.size w w2 → Blk w2 g 83 #[.int .i64 id, .int .i64 th, .string ⟨e.text.toArray⟩, .int .i64 e.sec, .slice Ak e.keys.length ck, .slice Am e.mem.length cm, .int .i64 e.mod, .int .i64 born, fv, .string ⟨(bodyL e).toArray⟩] → RdS w2 [] 2 fv (splitF e.text).1.length (flatG encF (splitF e.text).1) → EmAt w2 g e) := Lib.hid fun w2 g fv hb hB hR => ⟨id, th, born, _, _, fv, Ak, Am, ck, cm, hB, rfl, rfl, hk.below hb, hm.below hb, hR⟩
  have hbd : bodyL e = e.text.drop (splitF e.text).2 := rfl
  rw [← hbd] at hdt
  obtain ⟨sec, hsec⟩ : ∃ x, e.sec = x := ⟨_, rfl⟩
  obtain ⟨md, hmd⟩ : ∃ x, e.mod = x := ⟨_, rfl⟩
  obtain ⟨KN, hkn⟩ : ∃ x, e.keys.length = x := ⟨_, rfl⟩
  obtain ⟨MN, hmn⟩ : ∃ x, e.mem.length = x := ⟨_, rfl⟩
  rw [hsec, hmd, hkn, hmn] at HOUT
  rw [hsec, hmd, hkn, hmn]
  rw [← htl] at hps
  generalize bodyL e = bd at *
  generalize (splitF e.text) = sp at *
  generalize ByteArray.mk e.text.toArray = tx at *
  obtain ⟨fl, at_⟩ := sp
  simp only at *
  generalize flatG encF fl = ff at *
  generalize fl.length = fn at *
  have hsz : tx.size ≤ 2147483648 := by omega
  clear hsec hmd hkn hmn htl hbd
  have HK := Lib.hid hk
  have HM := Lib.hid hm
  clear hk hm
  go_enter Tryz.func23, Tryz.ntmps23
  go_wp2_with (first
    | (go_at_call 30; refine (hsp _).mono ?_; rintro en w2 ⟨v, hh, rfl, hsl, hfr, hb2⟩; have HB2 := Lib.hid hb2; have HSL := Lib.hid hsl; obtain ⟨Af, cf, rfl, _, _⟩ := hsl.form; clear hb2 hsl)
    | fail)
  have hbA := HB2.out
  simp only [World.size_alloc] at hbA
  have x0 : w2.cell? ⟨w.heap.size, 0, none⟩ = some (.int .i64 id) := (hbA.cell (p := ⟨w.heap.size, 0, none⟩) (by simp)).trans ((Blk.new w _ _).cell 0)
  have x1 : w2.cell? ⟨w.heap.size, 1, none⟩ = some (.int .i64 th) := (hbA.cell (p := ⟨w.heap.size, 1, none⟩) (by simp)).trans ((Blk.new w _ _).cell 1)
  have x2 : w2.cell? ⟨w.heap.size, 2, none⟩ = some (.string tx) := (hbA.cell (p := ⟨w.heap.size, 2, none⟩) (by simp)).trans ((Blk.new w _ _).cell 2)
  have x3 : w2.cell? ⟨w.heap.size, 3, none⟩ = some (.int .i64 sec) := (hbA.cell (p := ⟨w.heap.size, 3, none⟩) (by simp)).trans ((Blk.new w _ _).cell 3)
  have x4 : w2.cell? ⟨w.heap.size, 4, none⟩ = some (.slice Ak KN ck) := (hbA.cell (p := ⟨w.heap.size, 4, none⟩) (by simp)).trans ((Blk.new w _ _).cell 4)
  have x5 : w2.cell? ⟨w.heap.size, 5, none⟩ = some (.slice Am MN cm) := (hbA.cell (p := ⟨w.heap.size, 5, none⟩) (by simp)).trans ((Blk.new w _ _).cell 5)
  have x6 : w2.cell? ⟨w.heap.size, 6, none⟩ = some (.int .i64 md) := (hbA.cell (p := ⟨w.heap.size, 6, none⟩) (by simp)).trans ((Blk.new w _ _).cell 6)
  have x7 : w2.cell? ⟨w.heap.size, 7, none⟩ = some (.int .i64 born) := (hbA.cell (p := ⟨w.heap.size, 7, none⟩) (by simp)).trans ((Blk.new w _ _).cell 7)
  have hne := World.new_ne w2 _ x0
  have HBE := Lib.hid (((Below.refl w.heap.size w).alloc (Nat.le_refl _) _).trans (hbA.mono (Nat.le_succ _)))
  clear hbA
  go_region_held3 (fun W => W.cell? ⟨w.heap.size, 0, none⟩ = some (.int .i64 id) ∧ W.cell? ⟨w.heap.size, 1, none⟩ = some (.int .i64 th) ∧ W.cell? ⟨w.heap.size, 2, none⟩ = some (.string tx) ∧ W.cell? ⟨w.heap.size, 3, none⟩ = some (.int .i64 sec) ∧ W.cell? ⟨w.heap.size, 4, none⟩ = some (.slice Ak KN ck) ∧ W.cell? ⟨w.heap.size, 5, none⟩ = some (.slice Am MN cm) ∧ W.cell? ⟨w.heap.size, 6, none⟩ = some (.int .i64 md) ∧ W.cell? ⟨w.heap.size, 7, none⟩ = some (.int .i64 born)) (go_keep) (fail)
  all_goals
    go_wp2
    go_ret
    have hbf := fun o => (below_then HBE.out (below_alloc1 w2 o)).trans ((below_drew1 _).mono (below_then HBE.out (below_alloc1 w2 o)).size)
    exact ⟨_, rfl, HOUT.out _ _ _ (hbf _) ((Blk.new w2 _ _).below (below_drew1 _) (Blk.new w2 _ _).lt) ((HSL.out.reads [] (by simp)).below (below_then (below_alloc1 w2 _) (below_drew1 _))), hbf _⟩

theorem holds_all : ∀ n, HoldRec n
  | 0 => fun _ _ _ _ _ _ _ _ _ _ h => absurd h (by omega)
  | n + 1 => holds_step (holds_all n)

/-- What Holds tells. -/
def HoldsP (e : Em) (f : Out) : Bool := rightP f && (decide (f.length = 0) || holdsP e f f.length (f.length - 1))

theorem mail8 {w w2 : World} {t : TypeId} {a b c d x y z u : Value} (h : Below (w.alloc (.cells #[a, b, c, d, x, y, z, u] t)).heap.size (w.alloc (.cells #[a, b, c, d, x, y, z, u] t)) w2) :
    w2.cell? ⟨w.heap.size, 0, none⟩ = some a ∧ w2.cell? ⟨w.heap.size, 1, none⟩ = some b ∧ w2.cell? ⟨w.heap.size, 2, none⟩ = some c ∧ w2.cell? ⟨w.heap.size, 3, none⟩ = some d ∧ w2.cell? ⟨w.heap.size, 4, none⟩ = some x ∧ w2.cell? ⟨w.heap.size, 5, none⟩ = some y ∧ w2.cell? ⟨w.heap.size, 6, none⟩ = some z ∧ w2.cell? ⟨w.heap.size, 7, none⟩ = some u := by
  have hB := (Blk.new w t #[a, b, c, d, x, y, z, u]).below h (by simp)
  exact ⟨hB.cell 0, hB.cell 1, hB.cell 2, hB.cell 3, hB.cell 4, hB.cell 5, hB.cell 6, hB.cell 7⟩

set_option maxRecDepth 100000 in
set_option maxHeartbeats 1000000 in
theorem holds_anyH (w : World) (e : Em) (f : Out) (v : Value) (id th born : Int) (kv mv : Value) (hs : e.text.length ≤ 2147483648) (hk : RdS w [] 1 kv e.keys.length (keysV e.keys)) (hm : RdS w [] 2 mv e.mem.length (flatR e.mem)) (hf : FAt w v f) (hg : goodF f = true) (hkids : ∀ t ∈ f, t.kids.length ≤ 1000000) (hl : f.length ≤ 1000) :
    Calls Tryz.prog 16 #[v, .agg #[.int .i64 id, .int .i64 th, .string ⟨e.text.toArray⟩, .int .i64 e.sec, kv, mv, .int .i64 e.mod, .int .i64 born]] w fun en w' => en = .returned (.bool (HoldsP e f)) ∧ Below w.heap.size w w' := by
  have hr := fun W (hb : Below w.heap.size w W) => right_anyH W v f (hf.below hb) hkids
  obtain ⟨A, cap, rfl, hca, hcb⟩ := hf.form
  have hop := fun W (hb : Below w.heap.size w W) => opened_anyH W e id th born kv mv hs (hk.below hb) (hm.below hb)
  have hho := fun W g (hb : Below w.heap.size w W) (he : EmAt W g e) (hp : 0 < f.length) => holds_all f.length W g _ e f (f.length - 1) he (hf.below hb) hg (by omega) (by omega) hl
  unfold HoldsP
  obtain ⟨Ak, ck, rfl, _, _⟩ := hk.form
  obtain ⟨Am, cm, rfl, _, _⟩ := hm.form
  generalize rightP f = rr at hr ⊢
  generalize holdsP e f f.length (f.length - 1) = hh at hho ⊢
  obtain ⟨N, hN⟩ : ∃ N, f.length = N := ⟨_, rfl⟩
  rw [hN] at hr hho hl
  rw [hN]
  have HR := Lib.hid hr
  have HOP := Lib.hid hop
  have HHO := Lib.hid hho
  clear hr hop hho hk hm hf hg hkids hN hs
  cases rr with
  | false =>
    rw [Bool.false_and]
    go_enter Tryz.func16, Tryz.ntmps16
    go_wp2_with (first
      | (go_at_call 17; refine (HR.out _ (below_alloc1 w _)).mono ?_; rintro en w2 ⟨rfl, hb2⟩; have HB2 := Lib.hid (below_then (below_alloc1 w _) hb2); obtain ⟨x0, x1, x2, x3, x4, x5, x6, x7⟩ := mail8 hb2; clear hb2)
      | fail)
    go_ret
    exact ⟨rfl, HB2.out⟩
  | true =>
    rw [Bool.true_and]
    by_cases h0 : N = 0
    · subst h0
      rw [decide_eq_true rfl, Bool.true_or]
      go_enter Tryz.func16, Tryz.ntmps16
      go_wp2_with (first
        | (go_at_call 17; refine (HR.out _ (below_alloc1 w _)).mono ?_; rintro en w2 ⟨rfl, hb2⟩; have HB2 := Lib.hid (below_then (below_alloc1 w _) hb2); obtain ⟨x0, x1, x2, x3, x4, x5, x6, x7⟩ := mail8 hb2; clear hb2)
        | fail)
      go_ret
      exact ⟨rfl, HB2.out⟩
    · rw [decide_eq_false h0, Bool.false_or]
      have hcast : (((N - 1 : Nat) : Nat) : Int) = (N : Int) - 1 := by omega
      rw [hcast] at HHO
      go_enter Tryz.func16, Tryz.ntmps16
      go_wp2_with (first
        | (go_at_call 17; refine (HR.out _ (below_alloc1 w _)).mono ?_; rintro en w2 ⟨rfl, hb2⟩; have HB2 := Lib.hid (below_then (below_alloc1 w _) hb2); obtain ⟨x0, x1, x2, x3, x4, x5, x6, x7⟩ := mail8 hb2; clear hb2)
        | (go_at_call 23; refine (HOP.out _ HB2.out).mono ?_; rintro en w3 ⟨g, rfl, hem, hb3⟩; have HB3 := Lib.hid (below_then HB2.out hb3); have HEM := Lib.hid hem; clear hem hb3)
        | (go_at_call 24; refine (HHO.out _ _ HB3.out HEM.out (by omega)).mono ?_; rintro en w4 ⟨rfl, hb4⟩; have HB4 := Lib.hid (below_then HB3.out hb4); clear hb4)
        | fail)
      go_ret
      exact ⟨ret_bool (by have h9 : ((N : Int) == 0) = false := by rw [beq_eq_false_iff_ne]; omega
                          rw [h9, Bool.false_or]), HB4.out⟩

end Go.Proofs.YtnfabgbidkddhaaGreatDoor
