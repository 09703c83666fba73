/-
  The walk of pillarboxlaw18.StoreThreads.
-/
import Derived.Test.YtmbibhphpjmboaaGreatDoorGM
import Derived.Test.YtmbibhphpjmboaaGreatDoorGF
import Derived.Test.YtmbibhphpjmboaaGreatDoorThreadPlainM
import Derived.Test.YtmbibhphpjmboaaGreatDoorGB
import Derived.Test.YtmbibhphpjmboaaGreatDoorGC
import Derived.Deep.QuietTactic
import Derived.Laws.MakeOwn
namespace Go.Proofs.YtmbibhphpjmboaaGreatDoor
open Go.Shelf Go.RowKit
attribute [local go_sem ↓] Go.wp_at_zero Go.wp_at_succ

/-- The law's list of threads: nought, those so far, noughts. -/
def thC (ts : List Int) (n : Nat) : Array Value := ((0 :: ts ++ List.replicate (n - ts.length) 0).map encI).toArray
theorem thC_nil (n : Nat) : thC [] n = (List.replicate (n + 1) (Value.int .i64 0)).toArray := by
  unfold thC
  rw [List.length_nil, Nat.sub_zero, List.cons_append, List.nil_append, ← List.replicate_succ, List.map_replicate]
theorem thC_made (n : Nat) : madeCells #[Value.int .i64 0] (n + 1) = thC [] n := by
  rw [thC_nil]
  unfold madeCells
  apply Array.ext'
  apply List.ext_getElem
  · simp
  · intro i h1 h2
    simp [Nat.mod_one]
theorem thC_set (ts : List Int) (n : Nat) (h : ts.length < n) (y : Int) : (thC ts n).setIfInBounds (ts.length + 1) (.int .i64 y) = thC (ts ++ [y]) n := by
  unfold thC
  apply Array.ext'
  obtain ⟨d, hd⟩ : ∃ d, n - ts.length = d + 1 := ⟨n - ts.length - 1, by omega⟩
  have hd2 : n - (ts ++ [y]).length = d := by simp; omega
  rw [hd, hd2]
  simp [List.replicate_succ, encI]
theorem thC_get (ts : List Int) (n j : Nat) (h : j < ts.length) : (thC ts n)[j + 1]? = some (.int .i64 ts[j]) := by
  unfold thC
  simp [encI, List.getElem?_append, h]

theorem Try.infoInt2 : (Tryz.prog.info? 3).map (fun i => (i.zero, i.size, i.bytes)) = some (some (.int .i64 0), 1, 8) := by kernel_rfl
structure ThW (w wr : World) (ks : Nat → Nat) (k : Nat) (g : Nat) (q : Lies) (x : Acc) (ts : List Int) (bt n : Nat) : Prop where
  own : OwnStore w wr g q x
  fit : Fit x
  st : ThSt ks x ts k
  blk : Blk wr bt 3 (thC ts n)
  no : bt ∉ q.own g
  new : w.heap.size ≤ bt

def ksOf (gs : List Int) (j : Nat) : Nat := (gs[j]?.getD 0).toNat % (j + 1)
theorem ksOf_le (gs : List Int) (j : Nat) : ksOf gs j ≤ j := by
  unfold ksOf
  have := Nat.mod_lt (gs[j]?.getD 0).toNat (show 0 < j + 1 by omega)
  omega
theorem one_conv (c : Int) (n : Nat) (hc : c = n) (hn : n < 256) (W : World) : Sem.run Tryz.prog (convert 22 9 (.slice (some ⟨W.heap.size, 0, none⟩) 1 1)) (W.alloc (.cells #[.int .u8 c] 5)) = .ok (.string ⟨[UInt8.ofNat n].toArray⟩) (W.alloc (.cells #[.int .u8 c] 5)) := by
  have hB := Blk.new W 5 #[.int .u8 c]
  refine run_string_row Tryz.underlying22 Tryz.underlying5 (l := [UInt8.ofNat n]) (fun j hj => ?_) 1 rfl 9 Tryz.underlying9
  refine ⟨?_, hB.frozen j⟩
  rw [hB.cell j]
  match j, hj with
  | 0, _ => simp; omega

theorem OwnStore.from1 {w w1 wr : World} {g : Nat} {q : Lies} {x : Acc} (h : OwnStore w1 wr g q x) (hb : Below w.heap.size w w1) : OwnStore w wr g q x := ⟨h.at_, below_then hb h.below, fun k hk => Nat.le_trans hb.size (h.own k hk)⟩
/-- A store into a block of numbers of the law's own. -/
theorem OwnStore.other {w wr : World} {g bt : Nat} {q : Lies} {x : Acc} {cs : Array Value} (h : OwnStore w wr g q x) (hB : Blk wr bt 3 cs) (hno : bt ∉ q.own g) (hnew : w.heap.size ≤ bt) (j : Nat) (u : Value) : OwnStore w (wr.setCell ⟨bt, j, none⟩ u) g q x := by
  have hc : Chg [bt] wr (wr.setCell ⟨bt, j, none⟩ u) := (Chg.refl [bt] wr).set (.inl (by simp)) u
  exact ⟨h.at_.other hB (by decide) (by decide) hno hc, h.below.trans (hc.below h.below.size (fun k hk => by rw [List.mem_singleton.1 hk]; exact hnew)), h.own⟩
structure ThX (w wr : World) (g : Nat) (q : Lies) (x : Acc) (bt : Nat) (cs : Array Value) : Prop where
  own : OwnStore w wr g q x
  blk : Blk wr bt 3 cs
  no : bt ∉ q.own g
  new : w.heap.size ≤ bt
theorem ThX.later {w wr w' : World} {g : Nat} {q : Lies} {x : Acc} {bt : Nat} {cs : Array Value} (h : ThX w wr g q x bt cs) (hb : Below wr.heap.size wr w') : ThX w w' g q x bt cs :=
  ⟨h.own.later hb, h.blk.below hb h.blk.lt, h.no, h.new⟩
theorem ThX.store {w wr : World} {g : Nat} {q : Lies} {x : Acc} {bt : Nat} {cs : Array Value} (h : ThX w wr g q x bt cs) (j : Nat) (u : Value) : ThX w (wr.setCell ⟨bt, j, none⟩ u) g q x bt (cs.setIfInBounds j u) :=
  ⟨h.own.other h.blk h.no h.new j u, h.blk.set j u, h.no, h.new⟩
theorem ThX.next {w wr w' : World} {k g : Nat} {q q' : Lies} {x x' : Acc} {ks : Nat → Nat} {ts' : List Int} {bt n : Nat} (h : ThX w wr g q x bt (thC ts' n)) (ht : Turned wr w' g q x' q') (hf : Fit x') (hs : ThSt ks x' ts' k) : ThW w w' ks k g q' x' ts' bt n :=
  ⟨h.own.turned ht, hf, hs, h.blk.chg ht.chg h.no, fun hm => by
    rcases ht.own bt hm with h1 | h1
    · exact h.no h1
    · have := h.blk.lt
      omega, h.new⟩
theorem thC_size (ts : List Int) (n : Nat) (h : ts.length ≤ n) : (thC ts n).size = n + 1 := by
  unfold thC
  simp
  omega

set_option maxRecDepth 100000 in
set_option maxHeartbeats 8000000 in
theorem storeThreads_any (happ : AppendOk) (v : Value) (gs : List Int) (w : World) (hr : RdS w [] 1 v gs.length (gs.map (Value.int .u8))) (hb : ∀ g ∈ gs, 0 ≤ g ∧ g ≤ 255) :
    Calls Tryz.prog 3 #[v] w fun e w' => e = .returned (.bool true) ∧ Below w.heap.size w w' := by
  obtain ⟨m, hmn⟩ : ∃ m, gs.length = m := ⟨_, rfl⟩
  rw [hmn] at hr
  obtain ⟨A, cap, rfl, _, _⟩ := hr.form
  by_cases hgr : 20 < m
  · have hAw := awake_any happ w
    clear hr hb hmn happ
    go_enter Tryz.func3, Tryz.ntmps3
    go_wp2_with (first
      | (go_at_call 15; refine hAw.mono ?_; rintro e w5 ⟨rfl, hb⟩; have HB5 := Lib.hid hb; clear hb hAw)
      | fail)
    go_ret
    exact ⟨rfl, HB5.out⟩
  · have hm20 : m ≤ 20 := by omega
    have hW := wide_any w
    have hN := fun W => newA_any 1000 100 1048576 1073741824 1073741824 10000 200 (by unfold lim; omega) (by unfold lim; omega) (by unfold lim; omega) (by unfold lim; omega) (by unfold lim; omega) (by unfold lim; omega) (by unfold lim; omega) W
    have HR := Lib.hid hr
    have HG := Lib.hid hb
    have HMN := Lib.hid hmn
    have HAPP := Lib.hid happ
    clear hr hb hmn hgr happ
    obtain ⟨m1, hm1, hm1n⟩ : ∃ m1 : Nat, (m : Int) + 1 = (m1 : Int) ∧ m1 = m + 1 := ⟨m + 1, by omega, rfl⟩
    have hmk : ∀ W : World, (Instr.makeSlice 32 (.int .i64 (m1 : Int)) (.int .i64 (m1 : Int))).run Tryz.prog W = .ok (.slice (some ⟨W.heap.size, 0, none⟩) m1 m1) (W.alloc (.cells (thC [] m) 3)) := fun W => by
      obtain ⟨i0, hi, hz0, hz1, hz2⟩ := info_parts Try.infoInt2
      have h := run_make (P := Tryz.prog) W 32 3 i0 (.int .i64 0) Tryz.underlying32 hi hz0 .i64 .i64 (m1 : Int) (m1 : Int) (by omega) (by omega) (by rw [hz2]; omega) (by omega)
      rw [hz1, Int.toNat_natCast, Nat.mul_one] at h
      rw [← thC_made, ← hm1n]
      exact h
    obtain ⟨ks, hks⟩ : ∃ ks, ks = ksOf gs := ⟨_, rfl⟩
    have HKS := Lib.hid hks
    have hkle : ∀ j, ks j ≤ j := fun j => by rw [hks]; exact ksOf_le gs j
    have HKL := Lib.hid hkle
    clear hks hkle
    have HM1 := Lib.hid hm1n
    have hm1b : m1 ≤ 21 := by omega
    clear hm1n
    go_enter Tryz.func3, Tryz.ntmps3
    go_wp2_with (first
      | (go_at_call 17; refine hW.mono ?_; rintro e w1 ⟨rfl, hb1⟩; have HB1 := Lib.hid hb1; clear hW hb1)
      | (go_at_call 16; refine (hN _).mono ?_; rintro e w2 ⟨g, q, rfl, ho⟩; have HO := Lib.hid (OwnStore.from1 ho HB1.out); clear hN ho)
      | (go_at_call 18; refine (num_any _ _).mono ?_; rintro e wn ⟨rfl, rfl⟩)
      | fail)
    have HT0 : Hid (ThW w (w2.alloc (.cells (thC [] m) 3)) ks 0 g q (newP wideP) [] w2.heap.size m) := Lib.hid ⟨HO.out.later (below_alloc1 _ _), newP_fit wideP_ok, thSt_new ks, Blk.new _ _ _, fun hm => Nat.lt_irrefl _ (HO.out.at_.lt _ hm), HO.out.below.size⟩
    obtain ⟨bt, hbt⟩ : ∃ bt, bt = w2.heap.size := ⟨_, rfl⟩
    rw [← hbt] at HT0
    try rw [← hbt]
    clear hbt hmk hm1
    go_loopw [6] (fun iv wr => ∃ (k : Nat) (q : Lies) (x : Acc) (ts : List Int), k ≤ m ∧ iv = .int .i64 k ∧ Hid (ThW w wr ks k g q x ts bt m)) (fun iv _ => m - (intOf iv).toNat)
    case atStart => exact ⟨0, q, _, [], Nat.zero_le _, rfl, HT0⟩
    case round =>
      obtain ⟨k, q, x, ts, hk, rfl, HU⟩ := hrel
      by_cases hlt : k < m
      · have hkz : (k : Int) < (m : Int) := by omega
        have hkg : k < gs.length := by rw [HMN.out]; exact hlt
        obtain ⟨b, off, cap', hv, _, _, hblt, _, hat⟩ := HR.out.at_ (by omega)
        injection hv with hv1 hvn hv2
        clear hvn
        subst hv1 hv2
        obtain ⟨gk, hgk⟩ : ∃ gk, gs[k] = gk := ⟨_, rfl⟩
        have hgb := HG.out gs[k] (List.getElem_mem hkg)
        rw [hgk] at hgb
        obtain ⟨k2, hk2, hk2s⟩ : ∃ k2 : Nat, gk % ((k : Int) + 1) = (k2 : Int) ∧ k2 = ks k := by
          refine ⟨ks k, ?_, rfl⟩
          rw [HKS.out]
          unfold ksOf
          rw [List.getElem?_eq_getElem hkg, hgk, Option.getD_some, Int.natCast_emod]
          rw [Int.toNat_of_nonneg hgb.1]
          rfl
        have hk2l : k2 ≤ k := by rw [hk2s]; exact HKL.out k
        obtain ⟨a, ha, ha2⟩ : ∃ a : Nat, 97 + (k : Int) = (a : Int) ∧ a = 97 + k := ⟨97 + k, by omega, rfl⟩
        have hcv := fun W => one_conv (a : Int) a rfl (by omega) W
        obtain ⟨ca, hca⟩ : ∃ ca, UInt8.ofNat a = ca := ⟨_, rfl⟩
        rw [hca] at hcv
        have hwa : IntKind.u8.wrap (a : Int) = (a : Int) := by
          simp [IntKind.wrap, IntKind.bits, IntKind.signed]
          omega
        have hwg : IntKind.i64.wrap gk = gk := IntWalk.i64_in _ (by omega)
        have hcat : ∀ a b : List UInt8, (⟨a.toArray⟩ : ByteArray) ++ (⟨b.toArray⟩ : ByteArray) = ⟨(a ++ b).toArray⟩ := fun a b => by
          apply of_dataL
          simp
        have eg : (wr.alloc (.cells #[.int .u8 (a : Int)] 5)).cell? ⟨b, off + k, none⟩ = some (.int .u8 gk) := by
          refine (World.cell?_alloc_lt wr _ ⟨b, off + k, none⟩ (Nat.lt_of_lt_of_le hblt HU.out.own.below.size)).trans ((HU.out.own.below.cell hblt).trans ((hat k (by omega)).trans ?_))
          rw [List.getElem?_map, List.getElem?_eq_getElem hkg, hgk]
          rfl
        have hq1 : ((k : Int) + 1 == 0) = false := by simp; omega
        have hkw : IntKind.i64.wrap ((k : Int) + 1) = (k : Int) + 1 := IntWalk.i64_in _ (by omega)
        obtain ⟨x', hx', hst'⟩ := thSt_step HU.out.st (by omega) HKL.out keysF_nil
        have hfx' : Fit x' := by
          have h1 := appendP_fit headF HU.out.fit [1] [] (k : Int) (mailT k (ks k)) (by rw [keysF_nil]; decide)
          rw [hx'] at h1
          exact h1
        have htl : ts.length = k := HU.out.st.tlen
        have HX' := Lib.hid hx'
        have HST' := Lib.hid hst'
        have HFX' := Lib.hid hfx'
        have HFX := Lib.hid HU.out.fit
        have HTL := Lib.hid htl
        have HCA := Lib.hid hca
        have HA2 := Lib.hid ha2
        have HK2S := Lib.hid hk2s
        have HTX : Hid (ThX w wr g q x bt (thC ts m)) := Lib.hid ⟨HU.out.own, HU.out.blk, HU.out.no, HU.out.new⟩
        clear hx' hst' hfx' htl hca ha2 hk2s hat hgk
        go_upto_region 12 with (fail)
        obtain ⟨w12, hw12⟩ : ∃ w12 : World, w12 = wr.alloc (.cells #[.int .u8 (a : Int)] 5) := ⟨_, rfl⟩
        rw [← hw12]
        have HT12 : Hid (ThX w w12 g q x bt (thC ts m)) := Lib.hid (by rw [hw12]; exact HTX.out.later (below_alloc1 _ _))
        clear hw12 hcv eg
        have hsz : (thC ts m).size = m + 1 := thC_size ts m (by rw [HTL.out]; omega)
        have hti : ((k : Int) + 1).toNat = k + 1 := by omega
        have hb0 : (0 : Int) ≤ (k : Int) + 1 := by omega
        have hb1 : (k : Int) + 1 < (m1 : Int) := by have := HM1.out; omega
        obtain ⟨ov, hov⟩ : ∃ ov, w12.cell? ⟨bt, k + 1, none⟩ = some ov := by
          rw [HT12.out.blk.cell]
          exact ⟨_, Array.getElem?_eq_getElem (by omega)⟩
        have fb := HT12.out.blk.frozen (k + 1)
        have HSZ := Lib.hid hsz
        clear hsz
        go_upto_region 13 with (fail)
        obtain ⟨w13, hw13⟩ : ∃ w13 : World, w13 = w12.setCell ⟨bt, k + 1, none⟩ (.int .i64 ((k : Int) + 1)) := ⟨_, rfl⟩
        rw [← hw13]
        have HT13 : Hid (ThX w w13 g q x bt ((thC ts m).setIfInBounds (k + 1) (.int .i64 ((k : Int) + 1)))) := Lib.hid (by rw [hw13]; exact HT12.out.store (k + 1) _)
        clear hw13 hov fb
        rcases Nat.eq_zero_or_pos k2 with h0 | hpos
        · subst h0
          have hnx : nextT ts (ks k) = (k : Int) + 1 := by
            rw [← HK2S.out]
            unfold nextT
            rw [if_pos rfl, HTL.out]
          have HMT : Hid (mailT k (ks k) = [77, 101, 115, 115, 97, 103, 101, 45, 73, 68, 58, 32, 60] ++ [ca] ++ [62, 13, 10] ++ [13, 10, 120]) := Lib.hid (by
            unfold mailT
            rw [← HK2S.out, if_pos rfl, ← HA2.out, HCA.out]
            simp)
          have hq2 : ¬ (0 : Int) < ((0 : Nat) : Int) := by omega
          go_upto_region 16 with (fail)
          obtain ⟨wy, hwy⟩ : ∃ wy : World, wy = w13 := ⟨_, rfl⟩
          rw [← hwy]
          have HTY : Hid (ThX w wy g q x bt (thC (ts ++ [nextT ts (ks k)]) m)) := Lib.hid (by
            rw [hwy, hnx, ← thC_set ts m (by rw [HTL.out]; exact hlt), HTL.out]
            exact HT13.out)
          clear hwy
          have HOY := Lib.hid HTY.out.own
          have happ := fun (t : Text) (ht : t = mailT k (ks k)) => HAPP.out _ g q x [1] _ [] [] _ [] (k : Int) t (one_in HOY.out.at_ HFX.out t (by rw [ht]; have := mailT_length k (ks k); omega))
          have hap2 : ∀ t : Text, t = mailT k (ks k) → Calls Tryz.prog 19 #[.pointer (some ⟨g, 0, none⟩), .slice (some ⟨wy.heap.size, 0, none⟩) 1 1, .slice none 0 0, .int .i64 (k : Int), .string ⟨t.toArray⟩] (wy.alloc (.cells #[.int .i64 1] 3)) (AppOut (wy.alloc (.cells #[.int .i64 1] 3)) g q (x', (k : Int) + 1, 0)) := fun t ht => by
            have h1 := happ t ht
            rw [ht, HX'.out] at h1
            rw [ht]
            exact h1
          have HAP := Lib.hid hap2
          clear happ hap2
          go_wp2_with (first
            | (go_at_call 19; refine (HAP.out _ (by rw [HMT.out]; simp)).mono ?_; rintro e w9 ⟨rfl, q9, ht9⟩; have HT9 := Lib.hid ((HTY.out.later (below_alloc1 _ _)).next ht9 HFX'.out HST'.out); clear ht9)
            | (go_at_call 18; refine (num_any _ _).mono ?_; rintro e wn ⟨rfl, rfl⟩)
            | fail)
          refine ⟨?_, by simp [intOf]; omega⟩
          first | exact ⟨k + 1, q9, x', _, by omega, by go_num, HT9⟩ | ((repeat apply Exists.intro); exact ⟨⟨k + 1, q9, x', _, by omega, by go_num, HT9⟩, rfl⟩)
        · have hlt2 : k2 - 1 < ts.length := by rw [HTL.out]; omega
          obtain ⟨tv, htv⟩ : ∃ tv, ts[k2 - 1] = tv := ⟨_, rfl⟩
          have hnx : nextT ts (ks k) = tv := by
            rw [← HK2S.out]
            unfold nextT
            rw [if_neg (by omega), List.getElem?_eq_getElem hlt2, htv]
            rfl
          obtain ⟨b1, hb1', hb1n⟩ : ∃ b1 : Nat, 97 + (k2 : Int) = (b1 : Int) ∧ b1 = 97 + k2 := ⟨97 + k2, by omega, rfl⟩
          obtain ⟨b2, hb2', hb2n⟩ : ∃ b2 : Nat, (b1 : Int) - 1 = (b2 : Int) ∧ b2 = 97 + k2 - 1 := ⟨97 + k2 - 1, by omega, rfl⟩
          have hcv2 := fun W => one_conv (b2 : Int) b2 rfl (by omega) W
          obtain ⟨cb, hcb⟩ : ∃ cb, UInt8.ofNat b2 = cb := ⟨_, rfl⟩
          rw [hcb] at hcv2
          have hwb2 : IntKind.u8.wrap (b2 : Int) = (b2 : Int) := by
            simp [IntKind.wrap, IntKind.bits, IntKind.signed]
            omega
          have hb1b : b1 ≤ 200 := by omega
          have hb2b : b2 ≤ 200 := by omega
          have HMT : Hid (mailT k (ks k) = [77, 101, 115, 115, 97, 103, 101, 45, 73, 68, 58, 32, 60] ++ [ca] ++ [62, 13, 10] ++ ([105, 110, 45, 114, 101, 112, 108, 121, 45, 116, 111, 58, 32, 32, 60] ++ [cb] ++ [62, 32, 13, 10]) ++ [13, 10, 120]) := Lib.hid (by
            unfold mailT
            rw [← HK2S.out, if_neg (by omega), ← HA2.out, HCA.out, ← hb2n, hcb])
          have hq2 : (0 : Int) < (k2 : Int) := by omega
          have hcb2 : ∀ W : World, Below w13.heap.size w13 W → W.cell? ⟨bt, k2, none⟩ = some (.int .i64 tv) := fun W hb => by
            refine (hb.cell (p := ⟨bt, k2, none⟩) HT13.out.blk.lt).trans ?_
            rw [HT13.out.blk.cell, Array.getElem?_setIfInBounds_ne (by omega)]
            have h1 := thC_get ts m (k2 - 1) hlt2
            rw [show k2 - 1 + 1 = k2 by omega, htv] at h1
            exact h1
          have HB2N := Lib.hid hb2n
          have HCB2 := Lib.hid hcb2
          clear hb1n hb2n hcb hcb2 htv
          go_upto_region 15 with (fail)
          obtain ⟨w15, hw15⟩ : ∃ w15 : World, w15 = w13.alloc (.cells #[.int .u8 (b2 : Int)] 5) := ⟨_, rfl⟩
          rw [← hw15]
          have HT15 : Hid (ThX w w15 g q x bt ((thC ts m).setIfInBounds (k + 1) (.int .i64 ((k : Int) + 1)))) := Lib.hid (by rw [hw15]; exact HT13.out.later (below_alloc1 _ _))
          have ck2 : w15.cell? ⟨bt, k2, none⟩ = some (.int .i64 tv) := HCB2.out w15 (by rw [hw15]; exact below_alloc1 _ _)
          clear hw15 hcv2
          obtain ⟨ov2, hov2⟩ : ∃ ov2, w15.cell? ⟨bt, k + 1, none⟩ = some ov2 := by
            rw [HT15.out.blk.cell]
            exact ⟨_, Array.getElem?_eq_getElem (by rw [Array.size_setIfInBounds, HSZ.out]; omega)⟩
          have fb2 := HT15.out.blk.frozen (k + 1)
          have hk2z : (0 : Int) ≤ (k2 : Int) := by omega
          have hk2m : (k2 : Int) < (m1 : Int) := by have := HM1.out; omega
          go_upto_region 16 with (fail)
          obtain ⟨wy, hwy⟩ : ∃ wy : World, wy = w15.setCell ⟨bt, k + 1, none⟩ (.int .i64 tv) := ⟨_, rfl⟩
          rw [← hwy]
          have HTY : Hid (ThX w wy g q x bt (thC (ts ++ [nextT ts (ks k)]) m)) := Lib.hid (by
            have h1 := HT15.out.store (k + 1) (.int .i64 tv)
            rw [hwy, hnx, ← thC_set ts m (by rw [HTL.out]; exact hlt), HTL.out]
            rw [Array.setIfInBounds_setIfInBounds] at h1
            exact h1)
          clear hwy ck2 hov2 fb2
          have HOY := Lib.hid HTY.out.own
          have happ := fun (t : Text) (ht : t = mailT k (ks k)) => HAPP.out _ g q x [1] _ [] [] _ [] (k : Int) t (one_in HOY.out.at_ HFX.out t (by rw [ht]; have := mailT_length k (ks k); omega))
          have hap2 : ∀ t : Text, t = mailT k (ks k) → Calls Tryz.prog 19 #[.pointer (some ⟨g, 0, none⟩), .slice (some ⟨wy.heap.size, 0, none⟩) 1 1, .slice none 0 0, .int .i64 (k : Int), .string ⟨t.toArray⟩] (wy.alloc (.cells #[.int .i64 1] 3)) (AppOut (wy.alloc (.cells #[.int .i64 1] 3)) g q (x', (k : Int) + 1, 0)) := fun t ht => by
            have h1 := happ t ht
            rw [ht, HX'.out] at h1
            rw [ht]
            exact h1
          have HAP := Lib.hid hap2
          clear happ hap2
          go_wp2_with (first
            | (go_at_call 19; refine (HAP.out _ (by rw [HMT.out]; simp)).mono ?_; rintro e w9 ⟨rfl, q9, ht9⟩; have HT9 := Lib.hid ((HTY.out.later (below_alloc1 _ _)).next ht9 HFX'.out HST'.out); clear ht9)
            | (go_at_call 18; refine (num_any _ _).mono ?_; rintro e wn ⟨rfl, rfl⟩)
            | fail)
          refine ⟨?_, by simp [intOf]; omega⟩
          first | exact ⟨k + 1, q9, x', _, by omega, by go_num, HT9⟩ | ((repeat apply Exists.intro); exact ⟨⟨k + 1, q9, x', _, by omega, by go_num, HT9⟩, rfl⟩)
      · have hkz : ¬ (k : Int) < (m : Int) := by omega
        obtain rfl : k = m := by omega
        have hml := HU.out.st.len
        have htl := HU.out.st.tlen
        have hm1 := mails_any wr g q x HU.out.own.at_ ⟨by omega, fun y hy => ⟨by have := (HU.out.fit.mail y hy).keys; omega, by have := HU.out.fit.nmem hy; have := HU.out.fit.nb; have := HU.out.fit.clock; have := HU.out.fit.cfg.mod; omega⟩⟩
        rw [hml] at hm1
        have haw := fun W => awake_any HAPP.out W
        have HML := Lib.hid hml
        have HTL := Lib.hid htl
        clear hml htl
        go_wp2_with (first
          | (go_at_call 20; refine hm1.mono ?_; rintro e w11 ⟨A11, c11, rfl, hma, hb11⟩; have HMA := Lib.hid hma; have HB11 := Lib.hid hb11; clear hm1 hma hb11)
          | fail)
        go_loopw [12] (fun iv wr => ∃ i : Nat, i ≤ k ∧ iv = .int .i64 i ∧ Hid (Below w11.heap.size w11 wr)) (fun iv _ => k - (intOf iv).toNat)
        case atStart => exact ⟨0, Nat.zero_le _, rfl, Lib.hid (Below.refl _ _)⟩
        case round =>
          obtain ⟨i, hi, rfl, HBq⟩ := hrel
          by_cases hlt2 : i < k
          · have hiz : (i : Int) < (k : Int) := by omega
            have hi0 : (0 : Int) ≤ (i : Int) := by omega
            have hi1 : (0 : Int) ≤ (i : Int) + 1 := by omega
            have hi2 : (i : Int) + 1 < (m1 : Int) := by have := HM1.out; omega
            have hiw : IntKind.i64.wrap ((i : Int) + 1) = (i : Int) + 1 := IntWalk.i64_in _ (by omega)
            have hit : ((i : Int) + 1).toNat = i + 1 := by omega
            obtain ⟨ms, hms, hmr, _⟩ := HMA.out
            have hl1 : ms.length = k := by rw [← HML.out, ← hms]; simp
            obtain ⟨bm_, om, cm, hvm, _, _, hbl, _, hat⟩ := hmr.at_ (by omega)
            have hA11 : A11 = some ⟨bm_, om, none⟩ := (Value.slice.inj hvm).1
            have him : i < ms.length := by omega
            have hix : i < x.mails.length := by rw [HML.out]; exact hlt2
            have hit2 : i < ts.length := by rw [HTL.out]; exact hlt2
            have hth : ms[i].p.thread = ts[i] := by
              have h1 := (HU.out.st.mail i hix hit2).2
              have h2 : x.mails[i] = ms[i].p := by
                have h3 : (ms.map (·.p))[i]? = x.mails[i]? := by rw [hms]
                rw [List.getElem?_map, List.getElem?_eq_getElem him, List.getElem?_eq_getElem hix] at h3
                exact (Option.some.inj h3).symm
              rw [← h1, h2]
            obtain ⟨tv, htv⟩ : ∃ tv, ts[i] = tv := ⟨_, rfl⟩
            have d1 : wr.cell? ⟨bm_, om + i * 8 + 1, none⟩ = some (.int .i64 tv) := by
              rw [Nat.add_assoc]
              refine (HBq.out.cell hbl).trans ((hat (i * 8 + 1) (by omega)).trans ?_)
              rw [flatG_get encM_length ms i 1 him (by omega)]
              show some (Value.int .i64 ms[i].p.thread) = _
              rw [hth, htv]
            have d2 : wr.cell? ⟨bt, i + 1, none⟩ = some (.int .i64 tv) := by
              have hbk := (HU.out.blk.below HB11.out HU.out.blk.lt).below HBq.out (Nat.lt_of_lt_of_le HU.out.blk.lt HB11.out.size)
              rw [hbk.cell, thC_get ts k i hit2, htv]
            subst hA11
            clear hms hmr hvm hat hth htv
            go_wp2_with fail
            go_quiet (fail)
            go_wp2_with fail
            refine ⟨?_, by simp [intOf]; omega⟩
            first | exact ⟨i + 1, by omega, by go_num, Lib.hid (below_drewN' HBq.out _)⟩ | ((repeat apply Exists.intro); exact ⟨⟨i + 1, by omega, by go_num, Lib.hid (below_drewN' HBq.out _)⟩, rfl⟩)
          · have hiz : ¬ (i : Int) < (k : Int) := by omega
            go_wp2_with (first
              | (go_at_call 15; refine (haw _).mono ?_; rintro e w13 ⟨rfl, hb13⟩; have HB13 := Lib.hid hb13; clear hb13 haw)
              | fail)
            go_ret
            exact ⟨rfl, below_then HU.out.own.below (below_then HB11.out (below_then HBq.out HB13.out))⟩

end Go.Proofs.YtmbibhphpjmboaaGreatDoor
