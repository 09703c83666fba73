/-
  The reference's tell: plain, and its walk.
-/
import Derived.Test.YtkgpflobbmagaaaRefAdd
namespace Go.Proofs.Ytkgpflobbmagaaa
open Go.RowKit
attribute [local go_sem ↓] Go.wp_at_zero Go.wp_at_succ

/-- What befell an id last. -/
def lastFrom (l : List E4) (id d : Int) : Int := l.foldl (fun a e => if e.i = id then e.h else a) d
/-- Ids that come for the first time, behind those that came. -/
def fresh : List Int → List E4 → Seen
  | _, [] => []
  | ids, e :: r => if e.i ∈ ids then fresh (ids ++ [e.i]) r else (e.i, e.h, lastFrom r e.i e.h) :: fresh (ids ++ [e.i]) r

theorem addS_map (l : List E4) (e : E4) : ∀ (s : Seen), (s.map (·.1)).Nodup → e.i ∈ s.map (·.1) →
    (addS s e).map (fun p => (p.1, p.2.1, lastFrom l p.1 p.2.2)) = s.map fun p => (p.1, p.2.1, lastFrom (e :: l) p.1 p.2.2)
  | [], _, h => by simp at h
  | p :: r, hn, h => by
    rw [List.map_cons, List.nodup_cons] at hn
    rw [addS]
    by_cases hp : p.1 = e.i
    · have hr : ∀ q ∈ r, ¬ e.i = q.1 := fun q hq he => hn.1 (List.mem_map.2 ⟨q, hq, by rw [hp, he]⟩)
      rw [if_pos hp]
      simp only [List.map_cons, List.cons.injEq]
      refine ⟨?_, List.map_congr_left fun q hq => ?_⟩
      · simp [lastFrom, hp]
      · simp [lastFrom, hr q hq]
    · have hm : e.i ∈ r.map (·.1) := by
        rw [List.map_cons, List.mem_cons] at h
        rcases h with h | h
        · exact absurd h.symm hp
        · exact h
      have hp' : ¬ e.i = p.1 := fun h => hp h.symm
      rw [if_neg hp, List.map_cons, List.map_cons, addS_map l e r hn.2 hm]
      simp [lastFrom, hp']

theorem foldl_fresh : ∀ (l : List E4) (s : Seen) (ids : List Int), (s.map (·.1)).Nodup → (∀ x, x ∈ ids ↔ x ∈ s.map (·.1)) → l.foldl addS s = (s.map fun p => (p.1, p.2.1, lastFrom l p.1 p.2.2)) ++ fresh ids l
  | [], s, ids, _, _ => by simp [fresh, lastFrom]
  | e :: l, s, ids, hn, hi => by
    rw [List.foldl_cons, fresh]
    by_cases hm : e.i ∈ ids
    · have hm2 := (hi e.i).1 hm
      rw [if_pos hm]
      have hids : (addS s e).map (·.1) = s.map (·.1) := by
        rcases addS_ids s e with ⟨h1, _⟩ | ⟨_, h1⟩
        · exact h1
        · exact absurd hm2 h1
      rw [foldl_fresh l (addS s e) (ids ++ [e.i]) (by rw [hids]; exact hn) (fun x => by
        rw [hids, List.mem_append, List.mem_singleton, ← hi x]
        exact ⟨fun h => h.elim id (fun h => h ▸ hm), .inl⟩), addS_map l e s hn hm2]
    · have hm2 : e.i ∉ s.map (·.1) := fun h => hm ((hi e.i).2 h)
      rw [if_neg hm]
      have hnew : addS s e = s ++ [(e.i, e.h, e.h)] := addS_new s e (by
        rw [List.find?_eq_none]
        intro p hp hpe
        exact hm2 (List.mem_map.2 ⟨p, hp, by simpa using hpe⟩))
      rw [hnew, foldl_fresh l (s ++ [(e.i, e.h, e.h)]) (ids ++ [e.i])]
      · rw [List.map_append, List.append_assoc]
        congr 1
        refine List.map_congr_left fun p hp => ?_
        have : ¬ e.i = p.1 := fun h => hm2 (List.mem_map.2 ⟨p, hp, h.symm⟩)
        simp [lastFrom, this]
      · rw [List.map_append, List.nodup_append]
        refine ⟨hn, by simp, fun a ha b hb => ?_⟩
        simp at hb
        subst hb
        rintro rfl
        exact hm2 ha
      · intro x
        rw [List.map_append, List.mem_append, List.mem_append, hi x]
        simp
theorem told_fresh (l : List E4) : (fresh [] l).foldl toldOne ⟨[], [], []⟩ = told l := by
  unfold told toldS
  rw [foldl_fresh l [] [] (by simp) (by simp)]
  simp

/-- One step of the walk's loop. -/
theorem fresh_step (l : List E4) (i : Nat) (hi : i < l.length) (T R : Told) (h : (fresh ((l.take i).map (·.i)) (l.drop i)).foldl toldOne T = R) :
    (fresh ((l.take (i + 1)).map (·.i)) (l.drop (i + 1))).foldl toldOne (if l[i].i ∈ (l.take i).map (·.i) then T else toldOne T (l[i].i, l[i].h, lastFrom (l.drop (i + 1)) l[i].i l[i].h)) = R := by
  rw [List.drop_eq_getElem_cons hi, fresh] at h
  rw [List.take_succ_eq_append_getElem hi, List.map_append]
  split at h
  · rename_i hm
    rw [if_pos hm]
    exact h
  · rename_i hm
    rw [if_neg hm]
    exact h

theorem ent_at {w W : World} {l : List E4} {ba off n : Nat} (hb : Below w.heap.size w W) (hbl : ba < w.heap.size) (hat : ∀ j, j < n * 4 → w.cell? ⟨ba, off + j, none⟩ = (flatE l)[j]?) (hn : l.length = n) (j : Nat) (hj : j < l.length) :
    W.cell? ⟨ba, off + j * 4, none⟩ = some (.int .i64 l[j].m) ∧ W.cell? ⟨ba, off + j * 4 + 1, none⟩ = some (.int .i64 l[j].k) ∧ W.cell? ⟨ba, off + j * 4 + 2, none⟩ = some (.int .i64 l[j].i) ∧ W.cell? ⟨ba, off + j * 4 + 3, none⟩ = some (.int .i64 l[j].h) ∧ ba < W.heap.size := by
  obtain ⟨f0, f1, f2, f3⟩ := flatE_at l j hj
  have hrd : ∀ j, j < n * 4 → W.cell? ⟨ba, off + j, none⟩ = (flatE l)[j]? := fun j hj => (hb.cell (p := ⟨ba, off + j, none⟩) hbl).trans (hat j hj)
  exact ⟨(hrd (j * 4) (by omega)).trans f0, (hrd (j * 4 + 1) (by omega)).trans f1, (hrd (j * 4 + 2) (by omega)).trans f2, (hrd (j * 4 + 3) (by omega)).trans f3, Nat.lt_of_lt_of_le hbl hb.size⟩

/-- Memory of tell: the result's block, the lists so far. -/
structure TellMem (w wr : World) (R C : Nat) (vs : Nat → Value) (hs : Nat → Option Nat) (ls : Nat → List Int) : Prop where
  tm : ToldMem w wr C vs hs ls
  bR : Blk wr R 46 #[.slice none 0 0, .slice none 0 0, .slice none 0 0, .int .i64 0, .bool false]
  oR : w.heap.size ≤ R
  ne : R ≠ C
theorem TellMem.drewN {w wr : World} {R C : Nat} {vs : Nat → Value} {hs : Nat → Option Nat} {ls : Nat → List Int} (q : TellMem w wr R C vs hs ls) (n : Nat) : TellMem w (wr.drewN n) R C vs hs ls :=
  ⟨⟨q.tm.bC.heap rfl, fun i hi => (q.tm.sl i hi).heap rfl, below_drewN q.tm.below n, q.tm.own, q.tm.apart, q.tm.hC⟩, q.bR.heap rfl, q.oR, q.ne⟩
theorem TellMem.app {w wr w2 : World} {R C : Nat} {vs : Nat → Value} {hs : Nat → Option Nat} {ls : Nat → List Int} (q : TellMem w wr R C vs hs ls) (i : Nat) (hi : i < 3) {o : Obj} {x : Int} {v2 : Value} {h2 : Option Nat}
    (hs2 : Sl w2 3 1 v2 h2 ((ls i).length + 1) (intsV (ls i) ++ (#[.int .i64 x] : Array Value).toList)) (hc2 : Chg (hs i).toList (wr.alloc o).drew w2) (ho2 : h2 = hs i ∨ ∃ g, h2 = some g ∧ (wr.alloc o).drew.heap.size ≤ g) :
    TellMem w (w2.setCell ⟨C, i, none⟩ v2) R C (upd vs i v2) (upd hs i h2) (upd ls i (ls i ++ [x])) := by
  have hc3 : Chg (hs i).toList (wr.alloc o) w2 := ⟨hc2.os, hc2.tape, hc2.output, hc2.size, hc2.block⟩
  have hRn : R ∉ (hs i).toList := fun hm => by
    simp at hm
    exact (q.tm.sl i hi).ne_blk q.bR (by decide) R hm rfl
  exact ⟨q.tm.app i hi hs2 hc3 ho2, ((q.bR.alloc o).chg hc3 hRn).far q.ne _, q.oR, q.ne⟩

theorem lastFrom_snoc (l : List E4) (e : E4) (id d : Int) : lastFrom (l ++ [e]) id d = if e.i = id then e.h else lastFrom l id d := by
  simp [lastFrom]

/-- Whether none of the first k has the id. -/
def FirstIs (l : List E4) (k : Nat) (id : Int) (fb : Bool) : Prop := fb = true ↔ ∀ e ∈ l.take k, ¬ e.i = id

/-- What befell the id last, up to j. -/
def LastIs (l : List E4) (k j : Nat) (y : E4) (last : Int) : Prop := last = lastFrom ((l.drop k).take (j - k)) y.i y.h
theorem LastIs.start (l : List E4) (k : Nat) (y : E4) : LastIs l k k y y.h := by simp [LastIs, lastFrom]
theorem LastIs.next {l : List E4} {k j : Nat} {y : E4} {last : Int} (h : LastIs l k j y last) (hk : k ≤ j) (hj : j < l.length) (v : Int) (hv : v = if l[j].i = y.i then l[j].h else last) : LastIs l k (j + 1) y v := by
  unfold LastIs at h ⊢
  have hd : j - k < (l.drop k).length := by rw [List.length_drop]; omega
  rw [show j + 1 - k = j - k + 1 from by omega, List.take_succ_eq_append_getElem hd, lastFrom_snoc, ← h, hv]
  have : (l.drop k)[j - k] = l[j] := by
    rw [List.getElem_drop]
    congr 1
    omega
  rw [this]
theorem LastIs.last {l : List E4} {k : Nat} {y : E4} {last : Int} (hk : k < l.length) (hy : l[k] = y) (h : LastIs l k l.length y last) : last = lastFrom (l.drop (k + 1)) y.i y.h := by
  unfold LastIs at h
  rw [List.take_of_length_le (by rw [List.length_drop]; exact Nat.le_refl _), List.drop_eq_getElem_cons hk, hy] at h
  rw [h]
  simp [lastFrom]

set_option maxRecDepth 100000 in
set_option maxHeartbeats 4000000 in
theorem refTell_any (w : World) (va : Value) (n : Nat) (l : List E4) (hn : l.length = n) (hnb : n ≤ 1099511627776) (hr : RdS w [] 4 va n (flatE l)) :
    Calls Try.prog 47 #[va] w fun e w' => ∃ c, e = .returned (.agg c) ∧ ChO w' w.heap.size c (told l) 0 false ∧ Below w.heap.size w w' := by
  obtain ⟨i0, hi, hz0, hz1, hz2⟩ := info_parts Try.infoInt
  obtain ⟨A, cap, rfl, _, _⟩ := hr.form
  have hstart : TellMem w ((w.alloc (.cells #[.slice none 0 0, .slice none 0 0, .slice none 0 0, .int .i64 0, .bool false] 46)).alloc (.cells #[.slice none 0 0, .slice none 0 0, .slice none 0 0, .int .i64 0, .bool false] 46)) w.heap.size (w.heap.size + 1) (fun _ => .slice none 0 0) (fun _ => none) (lsOf ⟨[], [], []⟩) := by
    have hB := Blk.new (w.alloc (.cells #[.slice none 0 0, .slice none 0 0, .slice none 0 0, .int .i64 0, .bool false] 46)) 46 #[.slice none 0 0, .slice none 0 0, .slice none 0 0, .int .i64 0, .bool false]
    simp only [World.size_alloc] at hB
    refine ⟨⟨hB, fun i _ => ?_, ((Below.refl _ w).alloc (Nat.le_refl _) _).alloc (by simp) _, (fun _ _ h => by cases h), (fun _ _ _ _ _ _ h => by cases h), by omega⟩, (Blk.new w _ _).alloc _, Nat.le_refl _, by omega⟩
    have : lsOf ⟨[], [], []⟩ i = [] := by simp [lsOf]
    rw [this]
    exact Sl.nil _ _ _
  have HS := Lib.hid hstart
  have HR := Lib.hid hr
  have HN := Lib.hid hn
  have HT := Lib.hid (told_fresh l)
  clear hstart hr hn
  go_enter Try.func47, Try.ntmps47
  go_wp2_with fail
  generalize w.heap.size + 1 = C at HS ⊢
  go_loopw [4] (fun iv wr => ∃ (i : Nat) (T : Told) (vs : Nat → Value) (hs : Nat → Option Nat), i ≤ n ∧ iv = .int .i64 i ∧ Hid (TellMem w wr w.heap.size C vs hs (lsOf T)) ∧ Hid ((fresh ((l.take i).map (·.i)) (l.drop i)).foldl toldOne T = told l ∧ ∀ q, (lsOf T q).length ≤ i)) (fun iv _ => n - (intOf iv).toNat)
  case atStart => exact ⟨0, ⟨[], [], []⟩, _, _, Nat.zero_le _, rfl, HS, ⟨HT.out, fun q => by simp [lsOf]⟩⟩
  case round =>
    obtain ⟨i, T, vs, hs, hin, rfl, HU, HF⟩ := hrel
    by_cases hlt : i < n
    · have hil : i < l.length := by rw [HN.out]; exact hlt
      obtain ⟨ba, off, cap2, hva, _, _, hbl, _, hat⟩ := HR.out.at_ (by omega)
      injection hva with hva1 hva2 hva3
      subst hva1
      subst hva3
      clear hva2
      have HAT := Lib.hid hat
      clear hat
      have hEI := fun W hb => ent_at (w := w) (W := W) (l := l) hb hbl HAT.out HN.out i hil
      have HEI := Lib.hid hEI
      clear hEI
      generalize hy : l[i] = y at HEI
      have HY := Lib.hid hy
      clear hy
      go_wp2_with fail
      go_loopw [5, 6] (fun fv kv wr2 => ∃ (k : Nat) (fb : Bool), k ≤ i ∧ fv = .bool fb ∧ kv = .int .i64 k ∧ Hid (FirstIs l k y.i fb) ∧ Hid (TellMem w wr2 w.heap.size C vs hs (lsOf T))) (fun _ kv _ => i - (intOf kv).toNat)
      case atStart => exact ⟨0, true, Nat.zero_le _, rfl, rfl, Lib.hid (by simp [FirstIs]), HU⟩
      case round =>
        obtain ⟨k, fb, hki, rfl, rfl, HB, HV⟩ := hrel
        by_cases hkl : k < i
        · have hkl2 : k < l.length := by omega
          have hbel := HV.out.tm.below
          obtain ⟨_, _, di, _, hbw⟩ := HEI.out wr hbel
          obtain ⟨_, _, dk, _, _⟩ := ent_at hbel hbl HAT.out HN.out k hkl2
          have hsnoc : (∀ e ∈ l.take (k + 1), ¬ e.i = y.i) ↔ (∀ e ∈ l.take k, ¬ e.i = y.i) ∧ ¬ l[k].i = y.i := by
            rw [List.take_succ_eq_append_getElem hkl2]
            simp only [List.mem_append, List.mem_singleton]
            exact ⟨fun h => ⟨fun e he => h e (.inl he), h _ (.inr rfl)⟩, fun h e he => he.elim (h.1 e) (fun hh => hh ▸ h.2)⟩
          have HSN := Lib.hid hsnoc
          clear hsnoc hbel
          generalize l[k].i = ki at dk HSN
          cases fb
          · have HNX : Hid (FirstIs l (k + 1) y.i false) := Lib.hid ⟨fun h => by simp at h, fun h => by have := HB.out.2 (HSN.out.1 h).1; simp at this⟩
            go_wp2_with fail
            go_quiet (fail)
            go_wp2
            have HV2 := Lib.hid (HV.out.drewN nq)
            refine ⟨?_, by simp [intOf]; omega⟩
            first | exact ⟨k + 1, false, by omega, rfl, by go_num, HNX, HV2⟩ | ((repeat apply Exists.intro); exact ⟨⟨k + 1, false, by omega, rfl, by go_num, HNX, HV2⟩, rfl⟩)
          · by_cases hid : ki = y.i
            · have hid' : (ki == y.i) = true := by simpa using hid
              have hidn : (ki != y.i) = false := by simpa using hid
              have HNX : Hid (FirstIs l (k + 1) y.i false) := Lib.hid ⟨fun h => by simp at h, fun h => absurd hid (HSN.out.1 h).2⟩
              clear hid
              go_wp2_with fail
              go_quiet (fail)
              go_wp2
              have HV2 := Lib.hid (HV.out.drewN nq)
              refine ⟨?_, by simp [intOf]; omega⟩
              first | exact ⟨k + 1, false, by omega, rfl, by go_num, HNX, HV2⟩ | ((repeat apply Exists.intro); exact ⟨⟨k + 1, false, by omega, rfl, by go_num, HNX, HV2⟩, rfl⟩)
            · have hid' : (ki == y.i) = false := by simpa using hid
              have hidn : (ki != y.i) = true := by simpa using hid
              have HNX : Hid (FirstIs l (k + 1) y.i true) := Lib.hid ⟨fun _ => HSN.out.2 ⟨HB.out.1 rfl, hid⟩, fun _ => rfl⟩
              clear hid
              go_wp2_with fail
              go_quiet (fail)
              go_wp2
              have HV2 := Lib.hid (HV.out.drewN nq)
              refine ⟨?_, by simp [intOf]; omega⟩
              first | exact ⟨k + 1, true, by omega, rfl, by go_num, HNX, HV2⟩ | ((repeat apply Exists.intro); exact ⟨⟨k + 1, true, by omega, rfl, by go_num, HNX, HV2⟩, rfl⟩)
        · have hki2 : k = i := by omega
          subst hki2
          have hmem : (y.i ∈ (l.take k).map (·.i)) ↔ ¬ ∀ e ∈ l.take k, ¬ e.i = y.i := by
            rw [List.mem_map]
            constructor
            · rintro ⟨e, he, h1⟩ h2
              exact h2 e he h1
            · intro h
              rcases Classical.em (∃ e, e ∈ l.take k ∧ e.i = y.i) with h1 | h1
              · exact h1
              · exact absurd (fun e he hh => h1 ⟨e, he, hh⟩) h
          have hstep := fresh_step l k hil T (told l) HF.out.1
          rw [HY.out] at hstep
          have HSTEP := Lib.hid hstep
          have HMEM := Lib.hid hmem
          clear hstep hmem
          cases fb
          · have hnx : (fresh ((l.take (k + 1)).map (·.i)) (l.drop (k + 1))).foldl toldOne T = told l ∧ ∀ q, (lsOf T q).length ≤ k + 1 := by
              have h1 := HSTEP.out
              rw [if_pos (HMEM.out.2 (fun h => by have := HB.out.2 h; simp at this))] at h1
              exact ⟨h1, fun q => Nat.le_succ_of_le (HF.out.2 q)⟩
            have HNX := Lib.hid hnx
            clear hnx
            go_wp2
            refine ⟨?_, by simp [intOf]; omega⟩
            first | exact ⟨k + 1, T, vs, hs, by omega, by go_num, HV, HNX⟩ | ((repeat apply Exists.intro); exact ⟨⟨k + 1, T, vs, hs, by omega, by go_num, HV, HNX⟩, rfl⟩)
          · have hnx : (fresh ((l.take (k + 1)).map (·.i)) (l.drop (k + 1))).foldl toldOne (toldOne T (y.i, y.h, lastFrom (l.drop (k + 1)) y.i y.h)) = told l := by
              have h1 := HSTEP.out
              rw [if_neg (fun h => (HMEM.out.1 h) (HB.out.1 rfl))] at h1
              exact h1
            have HNX := Lib.hid hnx
            clear hnx HSTEP HMEM HB
            obtain ⟨_, _, _, dh, hbw⟩ := HEI.out wr HV.out.tm.below
            go_wp2_with fail
            go_loopw [7, 8] (fun lv jv wr2 => ∃ (j : Nat) (last : Int), k ≤ j ∧ j ≤ n ∧ lv = .int .i64 last ∧ jv = .int .i64 j ∧ Hid (LastIs l k j y last) ∧ Hid (TellMem w wr2 w.heap.size C vs hs (lsOf T))) (fun _ jv _ => n - (intOf jv).toNat)
            case atStart => exact ⟨k, y.h, Nat.le_refl _, by omega, rfl, rfl, Lib.hid (LastIs.start l k y), HV⟩
            case round =>
              clear dh hbw
              obtain ⟨j, last, hkj, hjn, rfl, rfl, HLS, HW⟩ := hrel
              have hbel := HW.out.tm.below
              obtain ⟨_, _, di, dh, hbw⟩ := HEI.out wr hbel
              by_cases hjl : j < n
              · have hjl2 : j < l.length := by rw [HN.out]; exact hjl
                obtain ⟨_, _, ej, eh, _⟩ := ent_at hbel hbl HAT.out HN.out j hjl2
                have hnext := fun v hv => HLS.out.next hkj hjl2 v hv
                have HNEXT := Lib.hid hnext
                clear hbel hnext
                generalize l[j].i = ji at ej HNEXT
                generalize l[j].h = jh at eh HNEXT
                by_cases hid : ji = y.i
                · have hid' : (ji == y.i) = true := by simpa using hid
                  have HLS2 := Lib.hid (HNEXT.out jh (by rw [if_pos hid]))
                  clear hid
                  go_wp2_with fail
                  go_quiet (fail)
                  go_wp2
                  have HV2 := Lib.hid (HW.out.drewN nq)
                  refine ⟨?_, by simp [intOf]; omega⟩
                  first | exact ⟨j + 1, jh, by omega, by omega, rfl, by go_num, HLS2, HV2⟩ | ((repeat apply Exists.intro); exact ⟨⟨j + 1, jh, by omega, by omega, rfl, by go_num, HLS2, HV2⟩, rfl⟩)
                · have hid' : (ji == y.i) = false := by simpa using hid
                  have HLS2 := Lib.hid (HNEXT.out last (by rw [if_neg hid]))
                  clear hid
                  go_wp2_with fail
                  go_quiet (fail)
                  go_wp2
                  have HV2 := Lib.hid (HW.out.drewN nq)
                  refine ⟨?_, by simp [intOf]; omega⟩
                  first | exact ⟨j + 1, last, by omega, by omega, rfl, by go_num, HLS2, HV2⟩ | ((repeat apply Exists.intro); exact ⟨⟨j + 1, last, by omega, by omega, rfl, by go_num, HLS2, HV2⟩, rfl⟩)
              · have hjn2 : j = n := by omega
                subst hjn2
                have hlast := LastIs.last hil HY.out (by rw [HN.out]; exact HLS.out)
                have hnx2 := HNX.out
                rw [← hlast] at hnx2
                have hlens : ∀ q, (lsOf (toldOne T (y.i, y.h, last)) q).length ≤ k + 1 := fun q => by
                  have := toldOne_len T (y.i, y.h, last) q
                  have := HF.out.2 q
                  omega
                have HNX2 := Lib.hid (And.intro hnx2 hlens)
                have HLN := Lib.hid (fun q => HF.out.2 q)
                have hCl : C < wr.heap.size := HW.out.tm.bC.lt
                have e0 : wr.cell? ⟨C, 0, none⟩ = some (vs 0) := HW.out.tm.bC.cell 0
                have e1 : wr.cell? ⟨C, 1, none⟩ = some (vs 1) := HW.out.tm.bC.cell 1
                have e2 : wr.cell? ⟨C, 2, none⟩ = some (vs 2) := HW.out.tm.bC.cell 2
                clear hlast hnx2 hlens hbel
                by_cases ha : y.h = 1
                · have ha1 : (y.h == 1) = true := by simpa using ha
                  by_cases hz : last = 3
                  · have hz1' : (last == 3) = true := by simpa using hz
                    have hls : toldOne T (y.i, y.h, last) = T := by simp [toldOne, ha, hz]
                    rw [hls] at HNX2
                    clear ha hz hls
                    go_wp2
                    refine ⟨?_, by simp [intOf]; omega⟩
                    first | exact ⟨k + 1, T, vs, hs, by omega, by go_num, HW, HNX2⟩ | ((repeat apply Exists.intro); exact ⟨⟨k + 1, T, vs, hs, by omega, by go_num, HW, HNX2⟩, rfl⟩)
                  · have hz1' : (last == 3) = false := by simpa using hz
                    have hls : lsOf (toldOne T (y.i, y.h, last)) = upd (lsOf T) 0 (lsOf T 0 ++ [y.i]) := by rw [ha]; exact lsOf_made _ _ _ hz
                    clear ha hz
                    have hCi0 : C ∉ (hs 0).toList := fun hm => HW.out.tm.ne 0 (by decide) (by simpa using hm)
                    go_wp2_with fail
                    go_region_law (refine step_append_sl _ (by rfl) (.tmp 94) (.tmp 100) _ (by rfl) Try.underlying44 hi hz0 hz1 hz2 rfl (by omega) (((HW.out.tm.sl 0 (by decide)).alloc _).heap (by rfl)) (by simp [Act.eval]) wr.heap.size #[.int .i64 y.i] (e' := 3) (fr := (0, 0)) (heap_alloc_new wr _) 1 1 (by simp [Act.eval]) (by rfl) (by simp [Value.oneCell']) (by have := HLN.out 0; unfold maxLen; omega) (by have := HLN.out 0; omega) ?_; intro v2 h2 w2 hs2 hc2 ho2; obtain ⟨A2, cap3, rfl, _, _⟩ := hs2.form; have hf2 : w2.frozen? ⟨C, 0, none⟩ = false := (hc2.frozen (p := ⟨C, 0, none⟩) (by simp; omega) hCi0).trans ((World.frozen?_alloc_past _ _ _ hCl).trans (HW.out.tm.bC.frozen 0)); have hf3 : w2.cell? ⟨C, 0, none⟩ = some (vs 0) := (hc2.cell (p := ⟨C, 0, none⟩) (by simp; omega) hCi0).trans ((World.cell?_alloc_past _ _ _ hCl).trans (HW.out.tm.bC.cell 0)))
                    all_goals
                      have q := HW.out.app 0 (by decide) hs2 hc2 ho2
                      rw [← hls] at q
                      have HQ := Lib.hid q
                      clear q hs2 hc2 ho2 hf2 hf3
                      go_wp2
                      refine ⟨?_, by simp [intOf]; omega⟩
                      first | exact ⟨k + 1, _, _, _, by omega, by go_num, HQ, HNX2⟩ | ((repeat apply Exists.intro); exact ⟨⟨k + 1, _, _, _, by omega, by go_num, HQ, HNX2⟩, rfl⟩)
                · have ha1 : (y.h == 1) = false := by simpa using ha
                  by_cases hz : last = 3
                  · have hz1' : (last == 3) = true := by simpa using hz
                    have hls : lsOf (toldOne T (y.i, y.h, last)) = upd (lsOf T) 2 (lsOf T 2 ++ [y.i]) := by rw [hz]; exact lsOf_gone _ _ _ ha
                    clear ha hz
                    have hCi2 : C ∉ (hs 2).toList := fun hm => HW.out.tm.ne 2 (by decide) (by simpa using hm)
                    go_wp2_with fail
                    go_region_law (refine step_append_sl _ (by rfl) (.tmp 107) (.tmp 113) _ (by rfl) Try.underlying44 hi hz0 hz1 hz2 rfl (by omega) (((HW.out.tm.sl 2 (by decide)).alloc _).heap (by rfl)) (by simp [Act.eval]) wr.heap.size #[.int .i64 y.i] (e' := 3) (fr := (0, 0)) (heap_alloc_new wr _) 1 1 (by simp [Act.eval]) (by rfl) (by simp [Value.oneCell']) (by have := HLN.out 2; unfold maxLen; omega) (by have := HLN.out 2; omega) ?_; intro v2 h2 w2 hs2 hc2 ho2; obtain ⟨A2, cap3, rfl, _, _⟩ := hs2.form; have hf2 : w2.frozen? ⟨C, 2, none⟩ = false := (hc2.frozen (p := ⟨C, 2, none⟩) (by simp; omega) hCi2).trans ((World.frozen?_alloc_past _ _ _ hCl).trans (HW.out.tm.bC.frozen 2)); have hf3 : w2.cell? ⟨C, 2, none⟩ = some (vs 2) := (hc2.cell (p := ⟨C, 2, none⟩) (by simp; omega) hCi2).trans ((World.cell?_alloc_past _ _ _ hCl).trans (HW.out.tm.bC.cell 2)))
                    all_goals
                      have q := HW.out.app 2 (by decide) hs2 hc2 ho2
                      rw [← hls] at q
                      have HQ := Lib.hid q
                      clear q hs2 hc2 ho2 hf2 hf3
                      go_wp2
                      refine ⟨?_, by simp [intOf]; omega⟩
                      first | exact ⟨k + 1, _, _, _, by omega, by go_num, HQ, HNX2⟩ | ((repeat apply Exists.intro); exact ⟨⟨k + 1, _, _, _, by omega, by go_num, HQ, HNX2⟩, rfl⟩)
                  · have hz1' : (last == 3) = false := by simpa using hz
                    have hls : lsOf (toldOne T (y.i, y.h, last)) = upd (lsOf T) 1 (lsOf T 1 ++ [y.i]) := lsOf_turned _ _ _ _ ha hz
                    clear ha hz
                    have hCi1 : C ∉ (hs 1).toList := fun hm => HW.out.tm.ne 1 (by decide) (by simpa using hm)
                    go_wp2_with fail
                    go_region_law (refine step_append_sl _ (by rfl) (.tmp 66) (.tmp 72) _ (by rfl) Try.underlying44 hi hz0 hz1 hz2 rfl (by omega) (((HW.out.tm.sl 1 (by decide)).alloc _).heap (by rfl)) (by simp [Act.eval]) wr.heap.size #[.int .i64 y.i] (e' := 3) (fr := (0, 0)) (heap_alloc_new wr _) 1 1 (by simp [Act.eval]) (by rfl) (by simp [Value.oneCell']) (by have := HLN.out 1; unfold maxLen; omega) (by have := HLN.out 1; omega) ?_; intro v2 h2 w2 hs2 hc2 ho2; obtain ⟨A2, cap3, rfl, _, _⟩ := hs2.form; have hf2 : w2.frozen? ⟨C, 1, none⟩ = false := (hc2.frozen (p := ⟨C, 1, none⟩) (by simp; omega) hCi1).trans ((World.frozen?_alloc_past _ _ _ hCl).trans (HW.out.tm.bC.frozen 1)); have hf3 : w2.cell? ⟨C, 1, none⟩ = some (vs 1) := (hc2.cell (p := ⟨C, 1, none⟩) (by simp; omega) hCi1).trans ((World.cell?_alloc_past _ _ _ hCl).trans (HW.out.tm.bC.cell 1)))
                    all_goals
                      have q := HW.out.app 1 (by decide) hs2 hc2 ho2
                      rw [← hls] at q
                      have HQ := Lib.hid q
                      clear q hs2 hc2 ho2 hf2 hf3
                      go_wp2
                      refine ⟨?_, by simp [intOf]; omega⟩
                      first | exact ⟨k + 1, _, _, _, by omega, by go_num, HQ, HNX2⟩ | ((repeat apply Exists.intro); exact ⟨⟨k + 1, _, _, _, by omega, by go_num, HQ, HNX2⟩, rfl⟩)
    · have hin2 : i = n := by omega
      subst hin2
      have hfin : T = told l := by
        have h1 := HF.out.1
        rw [show l.drop i = [] from List.drop_of_length_le (by rw [HN.out]; exact Nat.le_refl _)] at h1
        exact h1
      have hCl : C < wr.heap.size := HU.out.tm.bC.lt
      have hRl : w.heap.size < wr.heap.size := HU.out.bR.lt
      have ne1 : ¬ w.heap.size = C := HU.out.ne
      have ne2 : ¬ C = w.heap.size := fun h => ne1 h.symm
      obtain ⟨A0, p0, hv0, _, _⟩ := (HU.out.tm.sl 0 (by decide)).form
      obtain ⟨A1, p1, hv1, _, _⟩ := (HU.out.tm.sl 1 (by decide)).form
      obtain ⟨A2, p2, hv2, _, _⟩ := (HU.out.tm.sl 2 (by decide)).form
      have e0 : wr.cell? ⟨C, 0, none⟩ = some (.slice A0 (lsOf T 0).length p0) := hv0 ▸ HU.out.tm.bC.cell 0
      have e1 : wr.cell? ⟨C, 1, none⟩ = some (.slice A1 (lsOf T 1).length p1) := hv1 ▸ HU.out.tm.bC.cell 1
      have e2 : wr.cell? ⟨C, 2, none⟩ = some (.slice A2 (lsOf T 2).length p2) := hv2 ▸ HU.out.tm.bC.cell 2
      have e3 : wr.cell? ⟨C, 3, none⟩ = some (.int .i64 0) := HU.out.tm.bC.cell 3
      have e4 : wr.cell? ⟨C, 4, none⟩ = some (.bool false) := HU.out.tm.bC.cell 4
      have c0 : wr.cell? ⟨w.heap.size, 0, none⟩ = some (.slice none 0 0) := HU.out.bR.cell 0
      have c1 : wr.cell? ⟨w.heap.size, 1, none⟩ = some (.slice none 0 0) := HU.out.bR.cell 1
      have c2 : wr.cell? ⟨w.heap.size, 2, none⟩ = some (.slice none 0 0) := HU.out.bR.cell 2
      have c3 : wr.cell? ⟨w.heap.size, 3, none⟩ = some (.int .i64 0) := HU.out.bR.cell 3
      have c4 : wr.cell? ⟨w.heap.size, 4, none⟩ = some (.bool false) := HU.out.bR.cell 4
      have f0 : wr.frozen? ⟨w.heap.size, 0, none⟩ = false := HU.out.bR.frozen 0
      have f1 : wr.frozen? ⟨w.heap.size, 1, none⟩ = false := HU.out.bR.frozen 1
      have f2 : wr.frozen? ⟨w.heap.size, 2, none⟩ = false := HU.out.bR.frozen 2
      have f3 : wr.frozen? ⟨w.heap.size, 3, none⟩ = false := HU.out.bR.frozen 3
      have f4 : wr.frozen? ⟨w.heap.size, 4, none⟩ = false := HU.out.bR.frozen 4
      have hF : ChO (st5 wr w.heap.size (.slice A0 (lsOf T 0).length p0) (.slice A1 (lsOf T 1).length p1) (.slice A2 (lsOf T 2).length p2) (.int .i64 0) (.bool false)) w.heap.size #[(.slice A0 (lsOf T 0).length p0), (.slice A1 (lsOf T 1).length p1), (.slice A2 (lsOf T 2).length p2), .int .i64 0, .bool false] (told l) 0 false ∧
          Below w.heap.size w (st5 wr w.heap.size (.slice A0 (lsOf T 0).length p0) (.slice A1 (lsOf T 1).length p1) (.slice A2 (lsOf T 2).length p2) (.int .i64 0) (.bool false)) ∧ Blk (st5 wr w.heap.size (.slice A0 (lsOf T 0).length p0) (.slice A1 (lsOf T 1).length p1) (.slice A2 (lsOf T 2).length p2) (.int .i64 0) (.bool false)) w.heap.size 46 #[(.slice A0 (lsOf T 0).length p0), (.slice A1 (lsOf T 1).length p1), (.slice A2 (lsOf T 2).length p2), .int .i64 0, .bool false] := by
        refine ⟨⟨vs, hs, by rw [hv0, hv1, hv2], fun q hq => ?_, HU.out.tm.own⟩, ?_, st5_blk HU.out.bR⟩
        · rw [← hfin]
          have h1 := HU.out.tm.sl q hq
          refine h1.chg (st5_chg (Chg.refl [w.heap.size] wr) (.inl (by simp))) (fun x hx hm => ?_)
          simp at hm
          exact h1.ne_blk HU.out.bR (by decide) x hx hm
        · exact ((((HU.out.tm.below.setCell (p := ⟨w.heap.size, 0, none⟩) (Nat.le_refl _) _).setCell (p := ⟨w.heap.size, 1, none⟩) (Nat.le_refl _) _).setCell (p := ⟨w.heap.size, 2, none⟩) (Nat.le_refl _) _).setCell (p := ⟨w.heap.size, 3, none⟩) (Nat.le_refl _) _).setCell (p := ⟨w.heap.size, 4, none⟩) (Nat.le_refl _) _
      have HFIN := Lib.hid hF
      clear hF hv0 hv1 hv2 hfin
      go_wp2
      have hF := HFIN.out
      unfold st5 at hF
      generalize ((((wr.setCell ⟨w.heap.size, 0, none⟩ (.slice A0 (lsOf T 0).length p0)).setCell ⟨w.heap.size, 1, none⟩ (.slice A1 (lsOf T 1).length p1)).setCell ⟨w.heap.size, 2, none⟩ (.slice A2 (lsOf T 2).length p2)).setCell ⟨w.heap.size, 3, none⟩ (.int .i64 0)).setCell ⟨w.heap.size, 4, none⟩ (.bool false) = WF at hF ⊢
      obtain ⟨q1, q2, q3⟩ := hF
      have s0 : WF.cell? ⟨w.heap.size, 0, none⟩ = some (.slice A0 (lsOf T 0).length p0) := q3.cell 0
      have s1 : WF.cell? ⟨w.heap.size, 1, none⟩ = some (.slice A1 (lsOf T 1).length p1) := q3.cell 1
      have s2 : WF.cell? ⟨w.heap.size, 2, none⟩ = some (.slice A2 (lsOf T 2).length p2) := q3.cell 2
      have s3 : WF.cell? ⟨w.heap.size, 3, none⟩ = some (.int .i64 0) := q3.cell 3
      have s4 : WF.cell? ⟨w.heap.size, 4, none⟩ = some (.bool false) := q3.cell 4
      refine bodyPost_ret (v := .agg #[(.slice A0 (lsOf T 0).length p0), (.slice A1 (lsOf T 1).length p1), (.slice A2 (lsOf T 2).length p2), .int .i64 0, .bool false]) ?_ rfl ⟨_, rfl, q1, q2⟩
      simp [results, Try.results47, go_sem, s0, s1, s2, s3, s4]

end Go.Proofs.Ytkgpflobbmagaaa
