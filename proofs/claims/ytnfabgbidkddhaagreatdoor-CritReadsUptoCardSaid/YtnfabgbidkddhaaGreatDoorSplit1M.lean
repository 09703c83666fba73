/-
  The walk of field.Split: the fields of a text, and the place behind them.
-/
import Derived.Test.YtnfabgbidkddhaaGreatDoorGCF
import Derived.Test.YtnfabgbidkddhaaGreatDoorSplitW1M
import Derived.Deep.QuietTactic
import Derived.BigQuiet
import Derived.Deep.RegionLaw
import Derived.Deep.DrawnRows
import Derived.Deep.DeepCutAuto
import Derived.Deep.CutBlock
import Derived.StillTailTactics
namespace Go.Proofs.YtnfabgbidkddhaaGreatDoor
open Go.Shelf Go.RowKit
attribute [local go_sem ↓] Go.wp_at_zero Go.wp_at_succ
attribute [local go_sem] Oper.semAt_some

theorem Try.infoField : (Tryz.prog.info? 91).map (fun i => (i.zero, i.size, i.bytes)) = some (some (.agg #[.string ⟨#[]⟩, .string ⟨#[]⟩]), 2, 32) := by kernel_rfl

theorem split_start (w : World) (s : List UInt8) : GI w (((((w.alloc (.cells #[.int .i64 s.length] 3)).alloc (.cells #[.slice none 0 0] 36)).alloc (.cells #[.string ⟨s.toArray⟩] 9)).alloc (.cells #[.int .i64 0] 3)).alloc (.cells #[.int .i64 s.length] 3)) w.heap.size s.length [] := by
  refine ⟨⟨⟨.slice none 0 0, none, ?_, Sl.nil _ _ _, fun b hb => by cases hb⟩, ?_, ?_⟩, fun x hx => by simp at hx, fun t ht => by simp [gath] at ht, by simp [gath, sumL], by simp [gath], by simp⟩
  · exact (((blk_new2 w _ _ _).alloc _).alloc _).alloc _
  · exact ((((Blk.new w _ _).alloc _).alloc _).alloc _).alloc _
  · exact below_then (below_then (below_then (below_then (below_alloc1 w _) (below_alloc1 _ _)) (below_alloc1 _ _)) (below_alloc1 _ _)) (below_alloc1 _ _)
theorem split_start3 (w : World) (s : List UInt8) : LnSt (((((w.alloc (.cells #[.int .i64 s.length] 3)).alloc (.cells #[.slice none 0 0] 36)).alloc (.cells #[.string ⟨s.toArray⟩] 9)).alloc (.cells #[.int .i64 0] 3)).alloc (.cells #[.int .i64 s.length] 3)) (w.heap.size + 3) (w.heap.size + 4) (w.heap.size + 2) s 0 := by
  have h2 := Blk.new ((w.alloc (.cells #[.int .i64 s.length] 3)).alloc (.cells #[.slice none 0 0] 36)) 9 #[.string ⟨s.toArray⟩]
  have h3 := Blk.new (((w.alloc (.cells #[.int .i64 s.length] 3)).alloc (.cells #[.slice none 0 0] 36)).alloc (.cells #[.string ⟨s.toArray⟩] 9)) 3 #[.int .i64 0]
  have h4 := Blk.new ((((w.alloc (.cells #[.int .i64 s.length] 3)).alloc (.cells #[.slice none 0 0] 36)).alloc (.cells #[.string ⟨s.toArray⟩] 9)).alloc (.cells #[.int .i64 0] 3)) 3 #[.int .i64 s.length]
  simp only [World.size_alloc] at h2 h3 h4
  exact ⟨h3.alloc _, h4, (h2.alloc _).alloc _⟩
theorem kpL_trans {BA BT BS : Nat} {A B C : World} (h : KpL BA BT BS A B) (k : KpL BA BT BS B C) : KpL BA BT BS A C := ⟨k.1.trans h.1, k.2.1.trans h.2.1, k.2.2.trans h.2.2⟩
theorem kpL_put {BA BT BS B : Nat} (h : BA < B ∧ BT < B ∧ BS < B) (W : World) (l : Nat) (o o' : Obj) (hl : B ≤ l) (_ : W.heap[l]? = some o) (_ : o.isCells = false) (_ : o.isWalk = false) : KpL BA BT BS W (W.putObj l o') :=
  ⟨World.putObj_heap_other (by omega), World.putObj_heap_other (by omega), World.putObj_heap_other (by omega)⟩

set_option maxRecDepth 100000 in
set_option maxHeartbeats 4000000 in
theorem splitFd_any (s : List UInt8) (hs : s.length ≤ 2147483648) (w : World) :
    Calls Tryz.prog 30 #[.string ⟨s.toArray⟩, .int .i64 0, .int .i64 s.length] w fun e w' => ∃ v hh, e = .returned (.tuple #[v, .int .i64 ((splitF s).2 : Nat)]) ∧ Sl w' 91 2 v hh (splitF s).1.length (flatG encF (splitF s).1) ∧ (∀ b, hh = some b → w.heap.size ≤ b) ∧ Below w.heap.size w w' := by
  obtain ⟨i0, hi, hz0, hz1, hz2⟩ := info_parts Try.infoString
  obtain ⟨j0, hj, hj0, hj1, hj2⟩ := info_parts Try.infoField
  have hln := fun W => lines_any ⟨s.toArray⟩ 0 s.length W
  have n1 : ¬ (s.length : Int) < 0 := by omega
  refine (callsIn_wide (n := 3)).1 ?_
  refine callsIn_of_wp_marks Tryz.func30 rfl trivial ?_ rfl
  simp only [Tryz.ntmps30, List.size_toArray, List.length_cons, List.length_nil, Nat.reduceAdd, Nat.reduceSub, Array.replicate_succ, Array.replicate_zero, List.push_toArray, List.append_toArray, List.nil_append, List.cons_append]
  refine wpIn_wide.2 ?_
  go_wp2_with (first
    | (go_at_call 52; refine (hln _).mono ?_; rintro e w1 ⟨rfl, rfl⟩; clear hln)
    | fail)
  obtain ⟨N, hN⟩ : ∃ N, w.heap.size = N := ⟨_, rfl⟩
  obtain ⟨W0, hW0⟩ : ∃ W0 : World, W0 = ((((w.alloc (.cells #[.int .i64 s.length] 3)).alloc (.cells #[.slice none 0 0] 36)).alloc (.cells #[.string ⟨s.toArray⟩] 9)).alloc (.cells #[.int .i64 0] 3)).alloc (.cells #[.int .i64 s.length] 3) := ⟨_, rfl⟩
  rw [← hW0]
  have hsz : W0.heap.size = N + 5 := by rw [hW0]; simp; omega
  have hlst : LnSt W0 (N + 3) (N + 4) (N + 2) s 0 := by
    subst hN
    rw [hW0]
    exact split_start3 w s
  have hgi : GI w W0 N s.length [] := by
    subst hN
    rw [hW0]
    exact split_start w s
  rw [hN]
  refine' wpIn_wide.1 (wpIn_rangeFunc_ownC (F := Fence.wide) (n := 3) (N := s.length) (B := N + 3) rfl (by decide) (gf := 89) (lb := #[.pointer (some ⟨N + 3, 0, none⟩), .pointer (some ⟨N + 4, 0, none⟩), .pointer (some ⟨N + 2, 0, none⟩)]) rfl trivial (enters_of Tryz.func89 (by kernel_rfl) rfl)
    (lines_stops s hs (N + 3) (N + 4) (N + 2) (by omega) W0 hlst) (by omega) kpL_trans (kpL_put (by omega)) (fun _ => rfl)
    (fun pre W => GI w W N s.length pre) (fun c pre W => c = .exit 0 ∧ GX w W N pre) (hsz ▸ GI.own w N s.length) ?ix (fun pre A A' h hc => h.cell3 hc) (fun c pre A A' h hc => ⟨h.1, h.2.cell3 hc⟩) hgi _ ?assign ?body ?done ?stop)
  case ix =>
    intro c
    rw [hsz]
    exact fun pre A A' row h hg hr => ⟨h.1, GX.own w N pre A A' row h.2 hg hr⟩
  case assign =>
    intro l x W K hK
    gi_wp2
    exact hK
  case body =>
    rintro l pre x W hI hlen
    have HI := Lib.hid hI
    obtain ⟨v, hh, hB, hSl, hf⟩ := hI.st.cell
    obtain ⟨n, hn⟩ : ∃ n, (gath pre).length = n := ⟨_, rfl⟩
    rw [hn] at hSl
    have HB := Lib.hid hB
    have HF := Lib.hid hf
    have HS := Lib.hid hSl
    have c1 : W.cell? ⟨N + 1, 0, none⟩ = some v := hB.cell 0
    have f1 : W.frozen? ⟨N + 1, 0, none⟩ = false := hB.frozen 0
    have c0 : W.cell? ⟨N, 0, none⟩ = some (.int .i64 s.length) := hI.st.body.cell 0
    have f0 : W.frozen? ⟨N, 0, none⟩ = false := hI.st.body.frozen 0
    have hgl := hI.glen
    rw [hn] at hgl
    have HN := Lib.hid hn
    have hsum := hI.sum
    have hx1 := x.2.1
    clear hI hB hf hn
    obtain ⟨t, hte⟩ : ∃ t, x.1.1 = t := ⟨_, rfl⟩
    obtain ⟨nx, hnx⟩ : ∃ nx, x.1.2 = nx := ⟨_, rfl⟩
    have HX := Lib.hid hte
    have HNX := Lib.hid hnx
    rw [hte] at hx1 ⊢
    rw [hnx]
    clear hte hnx
    obtain ⟨A, cap, rfl, hnc, hcm⟩ := hSl.form
    clear hnc hcm
    rcases t with _ | ⟨c, r⟩
    · have hst := HI.out.stop x HX.out
      rw [HNX.out] at hst
      have HST := Lib.hid hst
      clear hst
      gi_wp2
      exact ⟨HST.out.1, rfl, HST.out.2⟩
    · have hidx : ∀ h : 0 < (⟨(c :: r).toArray⟩ : ByteArray).size, (⟨(c :: r).toArray⟩ : ByteArray)[0]'h = c := fun _ => rfl
      have hne : x.1.1 ≠ [] := by rw [HX.out]; simp
      have HNE := Lib.hid hne
      clear hne
      have hbl : blankB (c :: r) = (decide (c = 32) || decide (c = 9)) := by simp [blankB]
      by_cases hg : gath pre = []
      · have hadd : gath (pre ++ [x]) = gath pre ++ [x.1.1] := by rw [gath_snoc]; exact addLine_new (.inl hg)
        have HADD := Lib.hid hadd
        have hg0 : n = 0 := by rw [← HN.out, hg]; rfl
        subst hg0
        clear hadd hbl hg
        · gi_wp2_with (first
            | (gi_at_builtin; refine wpListIn_append_sl rfl _ _ 36 rfl Tryz.underlying36 hi hz0 hz1 hz2 rfl (by decide) HS.out rfl 1 1 rfl rfl ?_ ?_ ?_ ?_)
            | fail)
          any_goals (first | (simp [Value.oneCell']; done) | (unfold maxLen; omega) | omega | rfl)
          · intro v2 h2 w3 hs3 hc3 ho3
            obtain ⟨A2, cap3, rfl, _, _⟩ := hs3.form
            have hp := HI.out.push x HNE.out HADD.out HN.out HB.out HS.out HF.out (by rw [HX.out]; exact hs3) hc3 ho3
            have k1 : w3.cell? ⟨N + 1, 0, none⟩ = some (.slice A 0 cap) := (HB.out.chg hc3 (fun hm => by have := HF.out (N + 1) (by simpa using hm); omega)).cell 0
            have kf : w3.frozen? ⟨N + 1, 0, none⟩ = false := (HB.out.chg hc3 (fun hm => by have := HF.out (N + 1) (by simpa using hm); omega)).frozen 0
            have HPU := Lib.hid hp
            clear hs3 hc3 ho3 hp
            gi_wp2
            exact HPU.out
      · obtain ⟨k, rfl⟩ : ∃ k, n = k + 1 := ⟨n - 1, by
          have h1 : (gath pre).length ≠ 0 := fun h => hg (List.eq_nil_of_length_eq_zero h)
          rw [HN.out] at h1
          omega⟩
        have g0 : (0 : Int) < (k : Int) + 1 := by omega
        by_cases hb : blankB (c :: r) = true
        · have hkl : k < (gath pre).length := by rw [HN.out]; omega
          have hadd : gath (pre ++ [x]) = (gath pre).set k ((gath pre)[k] ++ x.1.1) := by
            rw [gath_snoc]
            exact addLine_last HN.out hkl (by rw [HX.out]; exact hb)
          obtain ⟨b, off, cap', hva, hv, _, _, hbl2, hat⟩ := hSl.at_ (by omega)
          injection hv with hv1 hv2 hv3
          subst hv1 hv3
          clear hv2
          have hp := HI.out.join x HNE.out k HN.out hkl hadd HB.out HN.out HS.out HF.out
          obtain ⟨ca0, cb⟩ := hat k (by omega)
          have ca : W.cell? ⟨b, off + k, none⟩ = some (.string ⟨(gath pre)[k].toArray⟩) := ca0.trans (by simp [hkl, encStr])
          clear ca0
          have hlast : (gath pre)[k].length ≤ sumL (gath pre) := sumL_mem (List.getElem_mem hkl)
          rw [HX.out] at hp
          generalize (gath pre)[k] = la at ca hp hlast
          have HPU := Lib.hid hp
          have g5 : IntKind.i64.wrap ((k : Int) + 1 - 1) = (k : Int) := by rw [show (k : Int) + 1 - 1 = k from by omega]; exact IntWalk.i64_in _ (by omega)
          have g6 : IntKind.i64.wrap (k : Int) = (k : Int) := IntWalk.i64_in _ (by omega)
          have g7 : (k : Int) < (k : Int) + 1 := by omega
          have g8 : (0 : Int) ≤ (k : Int) := by omega
          have hx2 : r.length + 1 ≤ 2147483648 := by simpa using hx1
          have n2 : ¬ 9223372036854775807 < la.length + (r.length + 1) := by omega
          have hap := fun (a b : List UInt8) => ByteArray.mk_append_mk a b
          have hc : c = 32 ∨ c = 9 := by
            rw [hbl] at hb
            simpa using hb
          clear hb hbl hat hadd hg hp hlast hSl
          rcases hc with rfl | rfl
          · gi_wp2
            exact HPU.out
          · gi_wp2
            exact HPU.out
        · have hadd : gath (pre ++ [x]) = gath pre ++ [x.1.1] := by rw [gath_snoc]; exact addLine_new (.inr (by rw [HX.out]; simpa using hb))
          have HADD := Lib.hid hadd
          have hc : ¬ c = 32 ∧ ¬ c = 9 := by
            rw [hbl] at hb
            simpa using hb
          have h32 : ¬ (c.toNat : Int) = 32 := fun h => hc.1 (by
            have h2 : c.toNat = 32 := by omega
            exact UInt8.toNat_inj.1 h2)
          have h9 : ¬ (c.toNat : Int) = 9 := fun h => hc.2 (by
            have h2 : c.toNat = 9 := by omega
            exact UInt8.toNat_inj.1 h2)
          have hq32 : ((c.toNat : Int) == 32) = false := by simpa using h32
          have hq9 : ((c.toNat : Int) == 9) = false := by simpa using h9
          clear hadd hbl hg hb hc h32 h9
          · gi_wp2_with (first
              | (gi_at_builtin; refine wpListIn_append_sl rfl _ _ 36 rfl Tryz.underlying36 hi hz0 hz1 hz2 rfl (by decide) HS.out rfl 1 1 rfl rfl ?_ ?_ ?_ ?_)
              | fail)
            any_goals (first | (simp [Value.oneCell']; done) | (unfold maxLen; omega) | omega | rfl)
            · intro v2 h2 w3 hs3 hc3 ho3
              obtain ⟨A2, cap3, rfl, _, _⟩ := hs3.form
              have hp := HI.out.push x HNE.out HADD.out HN.out HB.out HS.out HF.out (by rw [HX.out]; exact hs3) hc3 ho3
              have k1 : w3.cell? ⟨N + 1, 0, none⟩ = some (.slice A (k + 1) cap) := (HB.out.chg hc3 (fun hm => by have := HF.out (N + 1) (by simpa using hm); omega)).cell 0
              have kf : w3.frozen? ⟨N + 1, 0, none⟩ = false := (HB.out.chg hc3 (fun hm => by have := HF.out (N + 1) (by simpa using hm); omega)).frozen 0
              have HPU := Lib.hid hp
              clear hs3 hc3 ho3 hp
              gi_wp2
              exact HPU.out
  case done =>
    rintro D xs W hD hS hI hK
    obtain ⟨g, bp, hF⟩ : ∃ g bp, GF w W N s g bp := ⟨_, _, hI.gf hs hS⟩
    clear hI hS
    obtain ⟨gv, hg, hgB, hgS, hgF⟩ := hF.st.cell
    obtain ⟨A, cap, rfl, _, _⟩ := hgS.form
    obtain ⟨n, hn⟩ : ∃ n, g.length = n := ⟨_, rfl⟩
    have hDsz : D < W.heap.size := (Array.getElem?_eq_some_iff.1 hK).1
    have c1 : W.cell? ⟨N + 1, 0, none⟩ = some (.slice A n cap) := by rw [← hn]; exact hgB.cell 0
    have HR : Hid (FRel w W N g bp D (.slice A n cap) hg 0 (.slice none 0 0)) := Lib.hid ⟨⟨none, Sl.nil _ _ _, fun b hb => by cases hb⟩, by rw [← hn]; exact hgS, fun b hb => by have := hgF b hb; omega, hF.st.body, hF.st.below, hK⟩
    have HF := Lib.hid hF
    have HN := Lib.hid hn
    have hnb : n ≤ 2147483648 := by rw [← hn]; exact hF.glen
    have hNW : N ≤ W.heap.size := by have := hF.size; omega
    clear hgB hgS hgF hF hn hK hgi hlst
    go_wp2_with fail
    go_loopw [6, 68] (fun f i wr => ∃ k : Nat, k ≤ n ∧ i = .int .i64 k ∧ Hid (FRel w wr N g bp D (.slice A n cap) hg k f) ∧ Hid (N ≤ wr.heap.size)) (fun _ i _ => n - (intOf i).toNat)
    case atStart => exact ⟨0, Nat.zero_le _, rfl, HR, Lib.hid hNW⟩
    case round =>
      obtain ⟨k, hk, rfl, HU, HSZ⟩ := hrel
      by_cases hlt : k < n
      · have hkl : k < g.length := by rw [HN.out]; exact hlt
        obtain ⟨b3, off3, cap3', _, hv3, _, _, hb3, hat3⟩ := HU.out.gs.at_ (by omega)
        injection hv3 with hv1 hv2 hv3
        subst hv1 hv3
        clear hv2
        have cs : wr.cell? ⟨b3, off3 + k, none⟩ = some (.string ⟨g[k].toArray⟩) := (hat3 k (by omega)).1.trans (by simp [hkl, encStr])
        have hne := HF.out.gne g[k] (List.getElem_mem hkl)
        have hle : g[k].length ≤ 2147483648 := Nat.le_trans (sumL_mem (List.getElem_mem hkl)) HF.out.sum
        have hone := fun W => oneFd_any g[k] W (by omega) (cut_le _ _)
        have hf0 : k = 0 → fieldsF (g.take (k + 1)) = if blankB g[k] = true then [] else fieldOf g[k] := fun h0 => by
          subst h0
          cases g with
          | nil => simp at hkl
          | cons y r => exact fieldsF_zero y r
        have hf1 : 0 < k → fieldsF (g.take (k + 1)) = fieldsF (g.take k) ++ fieldOf g[k] := fun h0 => fieldsF_succ g k hkl h0
        clear hat3
        generalize g[k] = t at cs hne hle hone hf0 hf1
        rcases t with _ | ⟨c, r⟩
        · exact absurd rfl hne
        have hidx : ∀ h : 0 < (⟨(c :: r).toArray⟩ : ByteArray).size, (⟨(c :: r).toArray⟩ : ByteArray)[0]'h = c := fun _ => rfl
        have hbl : blankB (c :: r) = (decide (c = 32) || decide (c = 9)) := by simp [blankB]
        by_cases hskip : k = 0 ∧ blankB (c :: r) = true
        · obtain ⟨rfl, hb⟩ := hskip
          simp only [Nat.add_zero] at cs
          have hsame : fieldsF (g.take (0 + 1)) = fieldsF (g.take 0) := by rw [hf0 rfl, if_pos hb]; rfl
          have HNX := Lib.hid (HU.out.same hsame)
          have hc : c = 32 ∨ c = 9 := by
            rw [hbl] at hb
            simpa using hb
          clear hone hbl hb hf0 hf1 hne hle hsame
          rcases hc with rfl | rfl
          · go_wp2_with fail
            refine ⟨?_, by simp [intOf]; omega⟩
            first | exact ⟨1, by omega, by go_num, HNX, HSZ⟩ | ((repeat apply Exists.intro); exact ⟨⟨1, by omega, by go_num, HNX, HSZ⟩, rfl⟩)
          · go_wp2_with fail
            refine ⟨?_, by simp [intOf]; omega⟩
            first | exact ⟨1, by omega, by go_num, HNX, HSZ⟩ | ((repeat apply Exists.intro); exact ⟨⟨1, by omega, by go_num, HNX, HSZ⟩, rfl⟩)
        · have hfn : fieldsF (g.take (k + 1)) = fieldsF (g.take k) ++ fieldOf (c :: r) := by
            rcases Nat.eq_zero_or_pos k with h0 | h0
            · have hb : ¬ blankB (c :: r) = true := fun hb => hskip ⟨h0, hb⟩
              rw [hf0 h0, if_neg hb, h0]
              rfl
            · exact hf1 h0
          have hor : ¬ k = 0 ∨ (¬ c = 32 ∧ ¬ c = 9) := by
            rcases Nat.eq_zero_or_pos k with h0 | h0
            · refine .inr ?_
              have hb : ¬ blankB (c :: r) = true := fun hb => hskip ⟨h0, hb⟩
              rw [hbl] at hb
              simpa using hb
            · exact .inl (by omega)
          unfold fieldOf at hfn
          generalize oneF (c :: r) = of at hone hfn
          obtain ⟨⟨fa, fb⟩, ok⟩ := of
          simp only at hone hfn
          obtain ⟨hh0, hs0, hf0'⟩ := HU.out.fs
          obtain ⟨m, hm⟩ : ∃ m, (fieldsF (g.take k)).length = m := ⟨_, rfl⟩
          rw [hm] at hs0
          have HS0 := Lib.hid hs0
          have HF0 := Lib.hid hf0'
          obtain ⟨A0, cap0, rfl, _, _⟩ := hs0.form
          have hmk : m ≤ k := by
            rw [← hm]
            exact fieldsF_le g k
          have HM := Lib.hid hm
          have HFN := Lib.hid hfn
          clear hs0 hf0' hf0 hf1 hbl hskip hfn hne hle
          by_cases h0 : k = 0
          · subst h0
            simp only [Nat.add_zero] at cs
            have hc : ¬ c = 32 ∧ ¬ c = 9 := by
              rcases hor with h | h
              · exact absurd rfl h
              · exact h
            have h32 : ¬ (c.toNat : Int) = 32 := fun h => hc.1 (by
              have h2 : c.toNat = 32 := by omega
              exact UInt8.toNat_inj.1 h2)
            have h9 : ¬ (c.toNat : Int) = 9 := fun h => hc.2 (by
              have h2 : c.toNat = 9 := by omega
              exact UInt8.toNat_inj.1 h2)
            have hq32 : ((c.toNat : Int) == 32) = false := by simpa using h32
            have hq9 : ((c.toNat : Int) == 9) = false := by simpa using h9
            clear h32 h9 hc hor
            cases ok with
            | false =>
              have hsm : fieldsF (g.take (0 + 1)) = fieldsF (g.take 0) := by rw [HFN.out]; simp
              have HSM := Lib.hid hsm
              clear hsm
              go_wp2_with (first
                | (go_at_call 53; refine (hone _).mono ?_; rintro e w2 ⟨rfl, hb2⟩; have HB2 := Lib.hid hb2; clear hone hb2)
                | fail)
              have HUN : Hid (FRel w (w2.alloc (.cells #[.string ⟨fa.toArray⟩, .string ⟨fb.toArray⟩] 91)) N g bp D (.slice (some ⟨b3, off3, none⟩) n cap) hg (0 + 1) (.slice A0 m cap0)) := Lib.hid ((HU.out.later HSZ.out (below_then HB2.out (below_alloc1 _ _))).same HSM.out)
              have HSN : Hid (N ≤ (w2.alloc (.cells #[.string ⟨fa.toArray⟩, .string ⟨fb.toArray⟩] 91)).heap.size) := Lib.hid (by have h1 := HB2.out.size; have h2 := HSZ.out; rw [World.size_alloc]; omega)
              refine ⟨?_, by simp [intOf]; omega⟩
              first | exact ⟨0 + 1, by omega, by go_num, HUN, HSN⟩ | ((repeat apply Exists.intro); exact ⟨⟨0 + 1, by omega, by go_num, HUN, HSN⟩, rfl⟩)
            | true =>
              go_wp2_with (first
                | (go_at_call 53; refine (hone _).mono ?_; rintro e w2 ⟨rfl, hb2⟩; have HB2 := Lib.hid hb2; have HS2 : Hid (Sl w2 91 2 (.slice A0 m cap0) hh0 m (flatG encF (fieldsF (g.take 0)))) := Lib.hid (HS0.out.keep (fun b hb => hb2.block b (HS0.out.lt b hb))); clear hone hb2)
                | (at_builtin; refine wpList_append_slX rfl _ _ 79 rfl Tryz.underlying79 hj hj0 hj1 hj2 rfl (by decide) (HS2.out.alloc _) rfl (w2.heap.size + 1) (by simp) 1 1 rfl rfl ?_ ?_ ?_ ?_)
                | fail)
              any_goals (first | (simp [Value.oneCell']; done) | (unfold maxLen; omega) | omega | rfl)
              · intro v2 h2 w5 hs5 hc5 ho5
                obtain ⟨A5, cap5, rfl, _, _⟩ := hs5.form
                have HUN : Hid (FRel w w5 N g bp D (.slice (some ⟨b3, off3, none⟩) n cap) hg (0 + 1) (.slice A5 (m + 1) cap5)) := Lib.hid ((HU.out.later HSZ.out (below_then HB2.out (below_alloc1 _ _))).more (x := (fa, fb)) (by have h1 := HB2.out.size; have h2 := HSZ.out; rw [World.size_alloc]; omega) (by rw [HFN.out]; simp) (by rw [HM.out]; exact HS2.out.alloc _) HF0.out (by rw [HM.out]; exact hs5) hc5 (by rw [World.size_alloc]; exact ho5))
                have HSN : Hid (N ≤ w5.heap.size) := Lib.hid (by have h1 := HB2.out.size; have h2 := HSZ.out; have h3 := hc5.size; rw [World.size_alloc] at h3; omega)
                clear hs5 hc5 ho5
                go_wp2_with fail
                refine ⟨?_, by simp [intOf]; omega⟩
                first | exact ⟨0 + 1, by omega, by go_num, HUN, HSN⟩ | ((repeat apply Exists.intro); exact ⟨⟨0 + 1, by omega, by go_num, HUN, HSN⟩, rfl⟩)
          · have hkz : ((k : Int) == 0) = false := by simpa using h0
            clear hor
            cases ok with
            | false =>
              have hsm : fieldsF (g.take (k + 1)) = fieldsF (g.take k) := by rw [HFN.out]; simp
              have HSM := Lib.hid hsm
              clear hsm
              go_wp2_with (first
                | (go_at_call 53; refine (hone _).mono ?_; rintro e w2 ⟨rfl, hb2⟩; have HB2 := Lib.hid hb2; clear hone hb2)
                | fail)
              have HUN : Hid (FRel w (w2.alloc (.cells #[.string ⟨fa.toArray⟩, .string ⟨fb.toArray⟩] 91)) N g bp D (.slice (some ⟨b3, off3, none⟩) n cap) hg (k + 1) (.slice A0 m cap0)) := Lib.hid ((HU.out.later HSZ.out (below_then HB2.out (below_alloc1 _ _))).same HSM.out)
              have HSN : Hid (N ≤ (w2.alloc (.cells #[.string ⟨fa.toArray⟩, .string ⟨fb.toArray⟩] 91)).heap.size) := Lib.hid (by have h1 := HB2.out.size; have h2 := HSZ.out; rw [World.size_alloc]; omega)
              refine ⟨?_, by simp [intOf]; omega⟩
              first | exact ⟨k + 1, by omega, by go_num, HUN, HSN⟩ | ((repeat apply Exists.intro); exact ⟨⟨k + 1, by omega, by go_num, HUN, HSN⟩, rfl⟩)
            | true =>
              go_wp2_with (first
                | (go_at_call 53; refine (hone _).mono ?_; rintro e w2 ⟨rfl, hb2⟩; have HB2 := Lib.hid hb2; have HS2 : Hid (Sl w2 91 2 (.slice A0 m cap0) hh0 m (flatG encF (fieldsF (g.take k)))) := Lib.hid (HS0.out.keep (fun b hb => hb2.block b (HS0.out.lt b hb))); clear hone hb2)
                | (at_builtin; refine wpList_append_slX rfl _ _ 79 rfl Tryz.underlying79 hj hj0 hj1 hj2 rfl (by decide) (HS2.out.alloc _) rfl (w2.heap.size + 1) (by simp) 1 1 rfl rfl ?_ ?_ ?_ ?_)
                | fail)
              any_goals (first | (simp [Value.oneCell']; done) | (unfold maxLen; omega) | omega | rfl)
              · intro v2 h2 w5 hs5 hc5 ho5
                obtain ⟨A5, cap5, rfl, _, _⟩ := hs5.form
                have HUN : Hid (FRel w w5 N g bp D (.slice (some ⟨b3, off3, none⟩) n cap) hg (k + 1) (.slice A5 (m + 1) cap5)) := Lib.hid ((HU.out.later HSZ.out (below_then HB2.out (below_alloc1 _ _))).more (x := (fa, fb)) (by have h1 := HB2.out.size; have h2 := HSZ.out; rw [World.size_alloc]; omega) (by rw [HFN.out]; simp) (by rw [HM.out]; exact HS2.out.alloc _) HF0.out (by rw [HM.out]; exact hs5) hc5 (by rw [World.size_alloc]; exact ho5))
                have HSN : Hid (N ≤ w5.heap.size) := Lib.hid (by have h1 := HB2.out.size; have h2 := HSZ.out; have h3 := hc5.size; rw [World.size_alloc] at h3; omega)
                clear hs5 hc5 ho5
                go_wp2_with fail
                refine ⟨?_, by simp [intOf]; omega⟩
                first | exact ⟨k + 1, by omega, by go_num, HUN, HSN⟩ | ((repeat apply Exists.intro); exact ⟨⟨k + 1, by omega, by go_num, HUN, HSN⟩, rfl⟩)
      · have hkn : k = n := by omega
        subst hkn
        have hbo : Blk wr N 3 #[.int .i64 bp] := HU.out.body
        have b0 : wr.cell? ⟨N, 0, none⟩ = some (.int .i64 bp) := hbo.cell 0
        have fz : wr.frozen? ⟨N, 0, none⟩ = false := hbo.frozen 0
        clear hbo
        go_wp2_with fail
        go_still_tail 3, (by kernel_rfl)
        change wpList _ _ _ _ _ wr.drew
        go_wp2_with fail
        have hND : N ≠ D := by omega
        obtain ⟨⟨hh, q1, q2⟩, q3, q4, q5⟩ := HU.out.done hND HSZ.out (by omega)
        have q6 : ((wr.setCell ⟨N, 0, none⟩ (.int .i64 bp)).drew.putObj D (.deferred none)).cell? ⟨N, 0, none⟩ = some (.int .i64 bp) := q4
        refine ⟨by simp, .inl ⟨_, _, rfl, run_takeDeferred q5, ?_⟩⟩
        have hfl : (splitF s).1 = fieldsF (g.take k) := by rw [HF.out.fields, ← HN.out, List.take_length]
        refine ⟨.tuple #[u6, .int .i64 bp], ?_, u6, hh, ?_, ?_, ?_, ?_⟩
        · simp [results, Tryz.results30, go_sem, q6]
        · rw [HF.out.body]
        · rw [hfl]
          exact q1
        · rw [hN]
          exact q2
        · rw [hN]
          exact q3
  case stop =>
    rintro D c pre W hD hS ⟨rfl, hX⟩ hK
    obtain ⟨g, bp, hF⟩ := hX.gf hs hS
    clear hX hS
    refine wpIn_wide.2 ?_
    obtain ⟨gv, hg, hgB, hgS, hgF⟩ := hF.st.cell
    obtain ⟨A, cap, rfl, _, _⟩ := hgS.form
    obtain ⟨n, hn⟩ : ∃ n, g.length = n := ⟨_, rfl⟩
    have hDsz : D < W.heap.size := (Array.getElem?_eq_some_iff.1 hK).1
    have c1 : W.cell? ⟨N + 1, 0, none⟩ = some (.slice A n cap) := by rw [← hn]; exact hgB.cell 0
    have HR : Hid (FRel w W N g bp D (.slice A n cap) hg 0 (.slice none 0 0)) := Lib.hid ⟨⟨none, Sl.nil _ _ _, fun b hb => by cases hb⟩, by rw [← hn]; exact hgS, fun b hb => by have := hgF b hb; omega, hF.st.body, hF.st.below, hK⟩
    have HF := Lib.hid hF
    have HN := Lib.hid hn
    have hnb : n ≤ 2147483648 := by rw [← hn]; exact hF.glen
    have hNW : N ≤ W.heap.size := by have := hF.size; omega
    clear hgB hgS hgF hF hn hK hgi hlst
    go_wp2_with fail
    go_loopw [6, 68] (fun f i wr => ∃ k : Nat, k ≤ n ∧ i = .int .i64 k ∧ Hid (FRel w wr N g bp D (.slice A n cap) hg k f) ∧ Hid (N ≤ wr.heap.size)) (fun _ i _ => n - (intOf i).toNat)
    case atStart => exact ⟨0, Nat.zero_le _, rfl, HR, Lib.hid hNW⟩
    case round =>
      obtain ⟨k, hk, rfl, HU, HSZ⟩ := hrel
      by_cases hlt : k < n
      · have hkl : k < g.length := by rw [HN.out]; exact hlt
        obtain ⟨b3, off3, cap3', _, hv3, _, _, hb3, hat3⟩ := HU.out.gs.at_ (by omega)
        injection hv3 with hv1 hv2 hv3
        subst hv1 hv3
        clear hv2
        have cs : wr.cell? ⟨b3, off3 + k, none⟩ = some (.string ⟨g[k].toArray⟩) := (hat3 k (by omega)).1.trans (by simp [hkl, encStr])
        have hne := HF.out.gne g[k] (List.getElem_mem hkl)
        have hle : g[k].length ≤ 2147483648 := Nat.le_trans (sumL_mem (List.getElem_mem hkl)) HF.out.sum
        have hone := fun W => oneFd_any g[k] W (by omega) (cut_le _ _)
        have hf0 : k = 0 → fieldsF (g.take (k + 1)) = if blankB g[k] = true then [] else fieldOf g[k] := fun h0 => by
          subst h0
          cases g with
          | nil => simp at hkl
          | cons y r => exact fieldsF_zero y r
        have hf1 : 0 < k → fieldsF (g.take (k + 1)) = fieldsF (g.take k) ++ fieldOf g[k] := fun h0 => fieldsF_succ g k hkl h0
        clear hat3
        generalize g[k] = t at cs hne hle hone hf0 hf1
        rcases t with _ | ⟨c, r⟩
        · exact absurd rfl hne
        have hidx : ∀ h : 0 < (⟨(c :: r).toArray⟩ : ByteArray).size, (⟨(c :: r).toArray⟩ : ByteArray)[0]'h = c := fun _ => rfl
        have hbl : blankB (c :: r) = (decide (c = 32) || decide (c = 9)) := by simp [blankB]
        by_cases hskip : k = 0 ∧ blankB (c :: r) = true
        · obtain ⟨rfl, hb⟩ := hskip
          simp only [Nat.add_zero] at cs
          have hsame : fieldsF (g.take (0 + 1)) = fieldsF (g.take 0) := by rw [hf0 rfl, if_pos hb]; rfl
          have HNX := Lib.hid (HU.out.same hsame)
          have hc : c = 32 ∨ c = 9 := by
            rw [hbl] at hb
            simpa using hb
          clear hone hbl hb hf0 hf1 hne hle hsame
          rcases hc with rfl | rfl
          · go_wp2_with fail
            refine ⟨?_, by simp [intOf]; omega⟩
            first | exact ⟨1, by omega, by go_num, HNX, HSZ⟩ | ((repeat apply Exists.intro); exact ⟨⟨1, by omega, by go_num, HNX, HSZ⟩, rfl⟩)
          · go_wp2_with fail
            refine ⟨?_, by simp [intOf]; omega⟩
            first | exact ⟨1, by omega, by go_num, HNX, HSZ⟩ | ((repeat apply Exists.intro); exact ⟨⟨1, by omega, by go_num, HNX, HSZ⟩, rfl⟩)
        · have hfn : fieldsF (g.take (k + 1)) = fieldsF (g.take k) ++ fieldOf (c :: r) := by
            rcases Nat.eq_zero_or_pos k with h0 | h0
            · have hb : ¬ blankB (c :: r) = true := fun hb => hskip ⟨h0, hb⟩
              rw [hf0 h0, if_neg hb, h0]
              rfl
            · exact hf1 h0
          have hor : ¬ k = 0 ∨ (¬ c = 32 ∧ ¬ c = 9) := by
            rcases Nat.eq_zero_or_pos k with h0 | h0
            · refine .inr ?_
              have hb : ¬ blankB (c :: r) = true := fun hb => hskip ⟨h0, hb⟩
              rw [hbl] at hb
              simpa using hb
            · exact .inl (by omega)
          unfold fieldOf at hfn
          generalize oneF (c :: r) = of at hone hfn
          obtain ⟨⟨fa, fb⟩, ok⟩ := of
          simp only at hone hfn
          obtain ⟨hh0, hs0, hf0'⟩ := HU.out.fs
          obtain ⟨m, hm⟩ : ∃ m, (fieldsF (g.take k)).length = m := ⟨_, rfl⟩
          rw [hm] at hs0
          have HS0 := Lib.hid hs0
          have HF0 := Lib.hid hf0'
          obtain ⟨A0, cap0, rfl, _, _⟩ := hs0.form
          have hmk : m ≤ k := by
            rw [← hm]
            exact fieldsF_le g k
          have HM := Lib.hid hm
          have HFN := Lib.hid hfn
          clear hs0 hf0' hf0 hf1 hbl hskip hfn hne hle
          by_cases h0 : k = 0
          · subst h0
            simp only [Nat.add_zero] at cs
            have hc : ¬ c = 32 ∧ ¬ c = 9 := by
              rcases hor with h | h
              · exact absurd rfl h
              · exact h
            have h32 : ¬ (c.toNat : Int) = 32 := fun h => hc.1 (by
              have h2 : c.toNat = 32 := by omega
              exact UInt8.toNat_inj.1 h2)
            have h9 : ¬ (c.toNat : Int) = 9 := fun h => hc.2 (by
              have h2 : c.toNat = 9 := by omega
              exact UInt8.toNat_inj.1 h2)
            have hq32 : ((c.toNat : Int) == 32) = false := by simpa using h32
            have hq9 : ((c.toNat : Int) == 9) = false := by simpa using h9
            clear h32 h9 hc hor
            cases ok with
            | false =>
              have hsm : fieldsF (g.take (0 + 1)) = fieldsF (g.take 0) := by rw [HFN.out]; simp
              have HSM := Lib.hid hsm
              clear hsm
              go_wp2_with (first
                | (go_at_call 53; refine (hone _).mono ?_; rintro e w2 ⟨rfl, hb2⟩; have HB2 := Lib.hid hb2; clear hone hb2)
                | fail)
              have HUN : Hid (FRel w (w2.alloc (.cells #[.string ⟨fa.toArray⟩, .string ⟨fb.toArray⟩] 91)) N g bp D (.slice (some ⟨b3, off3, none⟩) n cap) hg (0 + 1) (.slice A0 m cap0)) := Lib.hid ((HU.out.later HSZ.out (below_then HB2.out (below_alloc1 _ _))).same HSM.out)
              have HSN : Hid (N ≤ (w2.alloc (.cells #[.string ⟨fa.toArray⟩, .string ⟨fb.toArray⟩] 91)).heap.size) := Lib.hid (by have h1 := HB2.out.size; have h2 := HSZ.out; rw [World.size_alloc]; omega)
              refine ⟨?_, by simp [intOf]; omega⟩
              first | exact ⟨0 + 1, by omega, by go_num, HUN, HSN⟩ | ((repeat apply Exists.intro); exact ⟨⟨0 + 1, by omega, by go_num, HUN, HSN⟩, rfl⟩)
            | true =>
              go_wp2_with (first
                | (go_at_call 53; refine (hone _).mono ?_; rintro e w2 ⟨rfl, hb2⟩; have HB2 := Lib.hid hb2; have HS2 : Hid (Sl w2 91 2 (.slice A0 m cap0) hh0 m (flatG encF (fieldsF (g.take 0)))) := Lib.hid (HS0.out.keep (fun b hb => hb2.block b (HS0.out.lt b hb))); clear hone hb2)
                | (at_builtin; refine wpList_append_slX rfl _ _ 79 rfl Tryz.underlying79 hj hj0 hj1 hj2 rfl (by decide) (HS2.out.alloc _) rfl (w2.heap.size + 1) (by simp) 1 1 rfl rfl ?_ ?_ ?_ ?_)
                | fail)
              any_goals (first | (simp [Value.oneCell']; done) | (unfold maxLen; omega) | omega | rfl)
              · intro v2 h2 w5 hs5 hc5 ho5
                obtain ⟨A5, cap5, rfl, _, _⟩ := hs5.form
                have HUN : Hid (FRel w w5 N g bp D (.slice (some ⟨b3, off3, none⟩) n cap) hg (0 + 1) (.slice A5 (m + 1) cap5)) := Lib.hid ((HU.out.later HSZ.out (below_then HB2.out (below_alloc1 _ _))).more (x := (fa, fb)) (by have h1 := HB2.out.size; have h2 := HSZ.out; rw [World.size_alloc]; omega) (by rw [HFN.out]; simp) (by rw [HM.out]; exact HS2.out.alloc _) HF0.out (by rw [HM.out]; exact hs5) hc5 (by rw [World.size_alloc]; exact ho5))
                have HSN : Hid (N ≤ w5.heap.size) := Lib.hid (by have h1 := HB2.out.size; have h2 := HSZ.out; have h3 := hc5.size; rw [World.size_alloc] at h3; omega)
                clear hs5 hc5 ho5
                go_wp2_with fail
                refine ⟨?_, by simp [intOf]; omega⟩
                first | exact ⟨0 + 1, by omega, by go_num, HUN, HSN⟩ | ((repeat apply Exists.intro); exact ⟨⟨0 + 1, by omega, by go_num, HUN, HSN⟩, rfl⟩)
          · have hkz : ((k : Int) == 0) = false := by simpa using h0
            clear hor
            cases ok with
            | false =>
              have hsm : fieldsF (g.take (k + 1)) = fieldsF (g.take k) := by rw [HFN.out]; simp
              have HSM := Lib.hid hsm
              clear hsm
              go_wp2_with (first
                | (go_at_call 53; refine (hone _).mono ?_; rintro e w2 ⟨rfl, hb2⟩; have HB2 := Lib.hid hb2; clear hone hb2)
                | fail)
              have HUN : Hid (FRel w (w2.alloc (.cells #[.string ⟨fa.toArray⟩, .string ⟨fb.toArray⟩] 91)) N g bp D (.slice (some ⟨b3, off3, none⟩) n cap) hg (k + 1) (.slice A0 m cap0)) := Lib.hid ((HU.out.later HSZ.out (below_then HB2.out (below_alloc1 _ _))).same HSM.out)
              have HSN : Hid (N ≤ (w2.alloc (.cells #[.string ⟨fa.toArray⟩, .string ⟨fb.toArray⟩] 91)).heap.size) := Lib.hid (by have h1 := HB2.out.size; have h2 := HSZ.out; rw [World.size_alloc]; omega)
              refine ⟨?_, by simp [intOf]; omega⟩
              first | exact ⟨k + 1, by omega, by go_num, HUN, HSN⟩ | ((repeat apply Exists.intro); exact ⟨⟨k + 1, by omega, by go_num, HUN, HSN⟩, rfl⟩)
            | true =>
              go_wp2_with (first
                | (go_at_call 53; refine (hone _).mono ?_; rintro e w2 ⟨rfl, hb2⟩; have HB2 := Lib.hid hb2; have HS2 : Hid (Sl w2 91 2 (.slice A0 m cap0) hh0 m (flatG encF (fieldsF (g.take k)))) := Lib.hid (HS0.out.keep (fun b hb => hb2.block b (HS0.out.lt b hb))); clear hone hb2)
                | (at_builtin; refine wpList_append_slX rfl _ _ 79 rfl Tryz.underlying79 hj hj0 hj1 hj2 rfl (by decide) (HS2.out.alloc _) rfl (w2.heap.size + 1) (by simp) 1 1 rfl rfl ?_ ?_ ?_ ?_)
                | fail)
              any_goals (first | (simp [Value.oneCell']; done) | (unfold maxLen; omega) | omega | rfl)
              · intro v2 h2 w5 hs5 hc5 ho5
                obtain ⟨A5, cap5, rfl, _, _⟩ := hs5.form
                have HUN : Hid (FRel w w5 N g bp D (.slice (some ⟨b3, off3, none⟩) n cap) hg (k + 1) (.slice A5 (m + 1) cap5)) := Lib.hid ((HU.out.later HSZ.out (below_then HB2.out (below_alloc1 _ _))).more (x := (fa, fb)) (by have h1 := HB2.out.size; have h2 := HSZ.out; rw [World.size_alloc]; omega) (by rw [HFN.out]; simp) (by rw [HM.out]; exact HS2.out.alloc _) HF0.out (by rw [HM.out]; exact hs5) hc5 (by rw [World.size_alloc]; exact ho5))
                have HSN : Hid (N ≤ w5.heap.size) := Lib.hid (by have h1 := HB2.out.size; have h2 := HSZ.out; have h3 := hc5.size; rw [World.size_alloc] at h3; omega)
                clear hs5 hc5 ho5
                go_wp2_with fail
                refine ⟨?_, by simp [intOf]; omega⟩
                first | exact ⟨k + 1, by omega, by go_num, HUN, HSN⟩ | ((repeat apply Exists.intro); exact ⟨⟨k + 1, by omega, by go_num, HUN, HSN⟩, rfl⟩)
      · have hkn : k = n := by omega
        subst hkn
        have hbo : Blk wr N 3 #[.int .i64 bp] := HU.out.body
        have b0 : wr.cell? ⟨N, 0, none⟩ = some (.int .i64 bp) := hbo.cell 0
        have fz : wr.frozen? ⟨N, 0, none⟩ = false := hbo.frozen 0
        clear hbo
        go_wp2_with fail
        go_still_tail 3, (by kernel_rfl)
        change wpList _ _ _ _ _ wr.drew
        go_wp2_with fail
        have hND : N ≠ D := by omega
        obtain ⟨⟨hh, q1, q2⟩, q3, q4, q5⟩ := HU.out.done hND HSZ.out (by omega)
        have q6 : ((wr.setCell ⟨N, 0, none⟩ (.int .i64 bp)).drew.putObj D (.deferred none)).cell? ⟨N, 0, none⟩ = some (.int .i64 bp) := q4
        refine ⟨by simp, .inl ⟨_, _, rfl, run_takeDeferred q5, ?_⟩⟩
        have hfl : (splitF s).1 = fieldsF (g.take k) := by rw [HF.out.fields, ← HN.out, List.take_length]
        refine ⟨.tuple #[u6, .int .i64 bp], ?_, u6, hh, ?_, ?_, ?_, ?_⟩
        · simp [results, Tryz.results30, go_sem, q6]
        · rw [HF.out.body]
        · rw [hfl]
          exact q1
        · rw [hN]
          exact q2
        · rw [hN]
          exact q3

end Go.Proofs.YtnfabgbidkddhaaGreatDoor
