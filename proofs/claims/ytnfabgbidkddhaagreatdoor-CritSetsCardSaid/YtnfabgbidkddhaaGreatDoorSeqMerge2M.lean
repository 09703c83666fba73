/-
  The walk of seq.Merge, joined.
-/
import Derived.Test.YtnfabgbidkddhaaGreatDoorSeqMergeM
import Derived.Deep.DeepCutAuto
import Derived.StillTailTactics
namespace Go.Proofs.YtnfabgbidkddhaaGreatDoor
open Go.Shelf Go.RowKit Go.Lib Go.Sort
attribute [local go_sem ↓] Go.wp_at_zero Go.wp_at_succ

theorem wpList_append_in {W : World} {ops : Array Oper} {rest : List Oper} {o : Oper} {a : Act} {Q : Exit → Act → World → Prop} {e' : TypeId}
    (hgd : o.guard = none) (s x : Operand) (ho : o.op = .call { callee := .builtin .append, args := #[s, x], argTypes := #[55, 55] })
    {g n cap : Nat} {D : List Rg} (hs : RowR W g n cap D) (m : Nat) (hm : m < n) (hsv : a.eval s = .slice (some ⟨g, 0, none⟩) m n) (c : Nat) (hx : a.eval x = .slice (some ⟨W.heap.size, 0, none⟩) 1 c) (x1 x2 : Int)
    (hk : ∀ w', RowR w' g n cap (D.set m (x1, x2)) → Chg [g] W w' → wpList Tryz.prog ops Q rest (a.put o.dst (.slice (some ⟨g, 0, none⟩) (m + 1) n)) w') :
    wpList Tryz.prog ops Q (o :: rest) a (W.alloc (.cells #[.int .i64 x1, .int .i64 x2] e')) := by
  refine wpList_plain hgd fun K hK' => ?_
  obtain ⟨w', hr, r1, r2⟩ := run_append_in (w := W.alloc (.cells #[.int .i64 x1, .int .i64 x2] e')) (Sl.alloc hs _) m hm ⟨W.heap.size, 0, none⟩ c (x1, x2) (fun j u hj => by
    rw [Addr.add_zero_off, World.cell?_alloc_at _ _ _ _ rfl]
    simpa [encR] using hj) o.type
  unfold Oper.wp execOp
  simp only [ho, resolve, invoke, builtin, Sem.run_bind, Sem.run_pure, Result.andThen_ok, List.map_toArray, List.map_cons, List.map_nil, hsv, hx, hr]
  exact hK' _ _ (hk w' r1 ⟨r2.os, r2.tape, r2.output, Nat.le_trans (by simp) r2.size, fun k hk hn => (r2.block k (by simp; omega) hn).trans (Below.heap_alloc _ _ _ hk)⟩)

def mergeR (l : List Rg) : List Rg := mGo (sortedR l)

set_option maxRecDepth 100000 in
set_option maxHeartbeats 2000000 in
theorem merge_any (w : World) (v : Value) (h : Option Nat) (n : Nat) (l : List Rg) (hs : Sl w 75 2 v h n (flatR l)) (hn : n ≤ 1099511627776) (hb : ∀ x ∈ l, 1 ≤ x.1 ∧ x.1 ≤ 9223372036854775807) :
    Calls Tryz.prog 65 #[v] w fun e w' => ∃ v' h', e = .returned v' ∧ Sl w' 75 2 v' h' (mergeR l).length (flatR (mergeR l)) ∧ Below w.heap.size w w' := by
  have hcl := cloneSl_any w v h n l hs hn
  have hll : l.length = n := by have := hs.1; rw [flatR_length] at this; omega
  have hso := fun W v h hs => sortSl_any W v h n l hs hn
  have hmx := @run_max_int Tryz.prog
  have hlen := sortedR_length l
  have hbs : ∀ x ∈ sortedR l, 1 ≤ x.1 ∧ x.1 ≤ 9223372036854775807 := fun x hx => hb x ((sortedR_perm l).mem_iff.1 hx)
  unfold mergeR
  generalize hsl : sortedR l = s at hso hlen hbs
  have HLL := Lib.hid hll
  have HLS := Lib.hid hlen
  have HBS := Lib.hid hbs
  have HSL := Lib.hid hsl
  obtain ⟨A0, cap0, rfl, _, _⟩ := hs.form
  clear hs hb hll hlen hbs hsl
  go_enter Tryz.func65, Tryz.ntmps65
  go_wp2_with (first
    | (go_at_call 100; refine hcl.mono ?_; rintro e w1 ⟨v1, rfl, hv1, hb1⟩; clear hcl)
    | fail)
  rcases hv1 with ⟨rfl, rfl, rfl⟩ | ⟨g, cap, rfl, hs1, hg⟩
  · have hs0 := hso w1 (.slice none 0 0) none (Sl.nil _ _ _)
    have hsn : s = [] := List.eq_nil_of_length_eq_zero HLS.out
    subst hsn
    have HB1 := Lib.hid hb1
    clear hso hb1
    go_wp2_with (first
      | (go_at_call 101; refine hs0.mono ?_; rintro e w2 ⟨rfl, _, hc2⟩; have HB2 := Lib.hid (HB1.out.trans (hc2.below HB1.out.size (by simp))); clear hc2 hs0)
      | fail)
    refine wp_loop_rounds 1 ?_
    rw [rounds_succ]
    go_wp2
    go_ret
    exact ⟨_, none, rfl, Sl.nil _ _ _, HB2.out⟩
  · have hs0 := hso w1 _ _ hs1
    have hnc : n ≤ cap := by
      obtain ⟨_, _, hv, hnc, _⟩ := Sl.form hs1
      injection hv with _ _ hv
      omega
    have HB1 := Lib.hid hb1
    have HG := Lib.hid hg
    clear hso hb1 hs1 hg
    go_wp2_with (first
      | (go_at_call 101; refine hs0.mono ?_; rintro e w2 ⟨rfl, hs2, hc2⟩; have HB2 := Lib.hid (HB1.out.trans (hc2.below HB1.out.size (by simpa using HG.out))); have HR2 := Lib.hid hs2; clear hc2 hs0 hs2)
      | fail)
    go_loopw [3, 17] (fun o i wr => ∃ (k m : Nat) (D : List Rg), k ≤ n ∧ m ≤ k ∧ i = .int .i64 k ∧ o = .slice (some ⟨g, 0, none⟩) m n ∧ Hid (RowR wr g n cap D) ∧ Hid (Below w.heap.size w wr) ∧ Hid (MSt s D n m k)) (fun _ i _ => n - (intOf i).toNat)
    case atStart => exact ⟨0, 0, s, by omega, by omega, rfl, rfl, HR2, HB2, Lib.hid (MSt.start (HLS.out.trans HLL.out))⟩
    case round =>
      obtain ⟨k, m, D, hk, hm, rfl, rfl, HR, HB, HM⟩ := hrel
      by_cases hlt : k < n
      · have hkD : k < D.length := by rw [HM.out.hd]; exact hlt
        have hkS : k < s.length := by rw [HM.out.hn]; exact hlt
        obtain ⟨c0, c1, _⟩ := HR.out.at_ k hlt hkD
        have hx := HM.out.here hkD hkS
        have hbx := HBS.out s[k] (List.getElem_mem hkS)
        rw [hx] at c0 c1
        obtain ⟨y, hab⟩ : ∃ y, y = s[k] := ⟨_, rfl⟩
        rw [← hab] at c0 c1 hbx
        obtain ⟨a, b⟩ := y
        simp only at c0 c1 hbx
        obtain ⟨ha1, ha2⟩ := hbx
        have HAB : Hid (∃ hk' : k < s.length, (a, b) = s[k]'hk') := Lib.hid ⟨hkS, hab⟩
        clear hab hx hkD hkS
        go_upto_region 8 with (fail)
        go_cut [36] (fun t wx => ∃ q : Nat, t = .bool (decide (0 < m ∧ a - 1 ≤ (D[m - 1]!).2)) ∧ Hid (wx = (wr.alloc (.cells #[.int .i64 a, .int .i64 b] 75)).drewN q))
        case first =>
          by_cases hm0 : 0 < m
          · obtain ⟨p, rfl⟩ : ∃ p, m = p + 1 := ⟨m - 1, by omega⟩
            have hmD : p < D.length := by rw [HM.out.hd]; omega
            have e1 := (HR.out.at_ p (by omega) hmD).2.1
            have hbang : D[p]! = D[p] := getElem!_pos D p hmD
            obtain ⟨y, hy⟩ : ∃ y, y = D[p] := ⟨_, rfl⟩
            rw [← hy] at e1 hbang
            have HY := Lib.hid hbang
            obtain ⟨y1, y2⟩ := y
            simp only at e1
            have e2 : (wr.alloc (.cells #[.int .i64 a, .int .i64 b] 75)).cell? ⟨g, p * 2 + 1, none⟩ = some (.int .i64 y2) := (World.cell?_alloc_lt wr _ _ (World.block_lt_of_cell? _ _ e1)).trans e1
            have g1 : decide (0 < p + 1) = true := decide_eq_true hm0
            have g2 : (0 : Int) ≤ (p : Int) := by omega
            have g3 : (p : Int) < (p : Int) + 1 := by omega
            have g4 : IntKind.i64.wrap (a - 1) = a - 1 := IntWalk.i64_in _ (by omega)
            have g5 : IntKind.i64.wrap ((p : Int) + 1 - 1) = (p : Int) := by rw [show (p : Int) + 1 - 1 = p from by omega]; exact IntWalk.i64_in _ (by omega)
            have g6 : IntKind.i64.wrap (p : Int) = (p : Int) := IntWalk.i64_in _ (by omega)
            have g7 : (0 : Int) < (p : Int) + 1 := by omega
            clear hbang hy hmD
            go_quiet (fail)
            go_wp2_with fail
            go_meet
            exact ⟨_, by rw [show p + 1 - 1 = p from rfl, HY.out]; simp, Lib.hid rfl⟩
          · have g1 : decide (0 < m) = false := decide_eq_false hm0
            have hd : decide (0 < m ∧ a - 1 ≤ (D[m - 1]!).2) = false := decide_eq_false fun h => hm0 h.1
            have HD := Lib.hid hd
            clear hd
            go_quiet (fail)
            go_wp2_with fail
            go_meet
            exact ⟨_, by rw [HD.out], Lib.hid rfl⟩
        case rest =>
          obtain ⟨q, ht, HW⟩ := hcut
          have hrow : RowR wc g n cap D := by
            rw [HW.out]
            exact (Sl.alloc HR.out _).heap rfl
          have hblk : Blk wc wr.heap.size 75 #[.int .i64 a, .int .i64 b] := by
            rw [HW.out]
            exact (Blk.new wr _ _).heap rfl
          have hbel : RowKit.Below w.heap.size w wc := by
            rw [HW.out]
            exact below_drewN (HB.out.alloc HB.out.size _) q
          have hgg : w.heap.size ≤ g := HG.out
          have hgr : g < wr.heap.size := Sl.lt HR.out g rfl
          clear HR HB HW
          by_cases hj : 0 < m ∧ a - 1 ≤ (D[m - 1]!).2
          · rw [decide_eq_true hj] at ht
            subst ht
            obtain ⟨hm0, hle⟩ := hj
            obtain ⟨p, rfl⟩ : ∃ p, m = p + 1 := ⟨m - 1, by omega⟩
            have hmD : p < D.length := by rw [HM.out.hd]; omega
            obtain ⟨e0, e1, e2⟩ := hrow.at_ p (by omega) hmD
            have hbang : D[p + 1 - 1]! = D[p] := getElem!_pos D p hmD
            rw [hbang] at hle
            have c1 := hblk.cell 1
            have hmx := fun ats ty W => run_max_int (P := Tryz.prog) ats ty D[p].2 b W
            have hmm : (if D[p].2 < b then b else D[p].2) = max D[p].2 b := by omega
            rw [hmm] at hmx
            have hst : MSt s (D.set p (D[p].1, max D[p].2 b)) n (p + 1) (k + 1) := by
              obtain ⟨hkS, hab⟩ := HAB.out
              have := HM.out.join hkS (by omega) hmD (by rw [← hab]; exact hle)
              rw [← hab] at this
              exact this
            have HST := Lib.hid hst
            have hrn := hrow.to p hmD (max D[p].2 b)
            have hbn := hbel.setCell (p := ⟨g, p * 2 + 1, none⟩) hgg (.int .i64 (max D[p].2 b))
            rw [← hmm] at hrn hbn
            rw [hmm] at hrn
            have HRN : Hid (RowR (wc.setCell ⟨g, p * 2 + 1, none⟩ (.int .i64 (if D[p].2 < b then b else D[p].2))).drew g n cap (D.set p (D[p].1, max D[p].2 b))) := Lib.hid (Sl.heap (by rw [hmm]; exact hrow.to p hmD (max D[p].2 b)) rfl)
            have HBN := Lib.hid hbn.drew
            clear hrn hbn hmx
            have g2 : (0 : Int) ≤ (p : Int) := by omega
            have g3 : (p : Int) < (p : Int) + 1 := by omega
            have g5 : IntKind.i64.wrap ((p : Int) + 1 - 1) = (p : Int) := by rw [show (p : Int) + 1 - 1 = p from by omega]; exact IntWalk.i64_in _ (by omega)
            have g6 : IntKind.i64.wrap (p : Int) = (p : Int) := IntWalk.i64_in _ (by omega)
            clear hmm
            generalize D[p].2 = y2 at *
            generalize D[p].1 = y1 at *
            clear hrow hst hle hbang hmD hbel
            go_wp2_with fail
            go_still_tail 14, (by kernel_rfl)
            change wpList _ _ _ _ _ wc.drew
            go_wp2
            refine ⟨?_, by simp [intOf]; omega⟩
            first | exact ⟨k + 1, p + 1, _, by omega, by omega, by go_num, rfl, HRN, HBN, HST⟩ | ((repeat apply Exists.intro); exact ⟨⟨k + 1, p + 1, _, by omega, by omega, by go_num, rfl, HRN, HBN, HST⟩, rfl⟩)
          · rw [decide_eq_false hj] at ht
            subst ht
            have c0 := hblk.cell 0
            have c1 := hblk.cell 1
            have HAL := Lib.hid hrow
            have hst : MSt s (D.set m (a, b)) n (m + 1) (k + 1) := by
              obtain ⟨hkS, hab⟩ := HAB.out
              have := HM.out.push hkS (fun h0 h3 hc => hj ⟨h0, by rw [getElem!_pos D (m - 1) h3]; rw [← hab] at hc; exact hc⟩)
              rw [← hab] at this
              exact this
            have HST := Lib.hid hst
            have HBL := Lib.hid hbel
            clear hst hj hrow hbel hmx
            go_wp2_with (at_builtin; refine wpList_append_in rfl _ _ rfl HAL.out m (by omega) rfl 1 rfl a b ?_)
            intro w' r1 r2
            have HRN := Lib.hid r1
            have HBN := Lib.hid (HBL.out.trans (r2.below HBL.out.size (by simpa using hgg)))
            clear r1 r2
            go_wp2
            refine ⟨?_, by simp [intOf]; omega⟩
            first | exact ⟨k + 1, m + 1, _, by omega, by omega, by go_num, rfl, HRN, HBN, HST⟩ | ((repeat apply Exists.intro); exact ⟨⟨k + 1, m + 1, _, by omega, by omega, by go_num, rfl, HRN, HBN, HST⟩, rfl⟩)
      · have hkn : k = n := by omega
        subst hkn
        have hfin : D.take m = mGo s := by
          have h1 := HM.out.pre
          have h2 : s.take k = s := List.take_of_length_le (by rw [HM.out.hn]; exact Nat.le_refl _)
          rw [h2] at h1
          exact h1
        have ho := HR.out.out m hm
        rw [hfin] at ho
        have hl : (mGo s).length = m := by rw [← hfin, List.length_take, HM.out.hd]; omega
        have HO := Lib.hid ho
        have HL := Lib.hid hl
        clear ho hl hfin
        go_wp2
        go_ret
        exact ⟨_, _, rfl, by rw [HL.out]; exact HO.out, HB.out⟩

end Go.Proofs.YtnfabgbidkddhaaGreatDoor
