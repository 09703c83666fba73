/-
  The last drawn region of the store's Destroy: what was turned, and the email and its thread, are told to the log.
  The walk of the store's Destroy: what it hands back, and the account behind it, are destroyP's.
-/
import Derived.Test.YtgkfknbhkonfdaaGreatDoorGF
import Derived.Test.YtgkfknbhkonfdaaGreatDoorGM
import Derived.Test.YtgkfknbhkonfdaaGreatDoorGK
namespace Go.Proofs.YtgkfknbhkonfdaaGreatDoor
open Go.Shelf Go.RowKit
attribute [local go_sem ↓] Go.wp_at_zero Go.wp_at_succ

set_option maxRecDepth 100000 in
set_option maxHeartbeats 8000000 in
theorem dest_tell (wg : World) (g B : Nat) (q : Lies) (x5 x6 : Acc) (mod id th how a0 a3 a6 a7 : Int) (s2 : ByteArray) (vk vm : Value) (ne : Nat) (es : List E4) (is : List Int) (u2 u3 u4 u5 u9 u10 u11 u12 u13 u14 u15 u16 u17 u18 u19 u20 u21 u22 u23 u24 u25 u26 u27 u28 u29 u30 u31 u32 u33 u34 u35 u36 u37 u38 u39 u40 u41 u42 u43 u44 u45 u46 u47 u48 u49 u50 u51 u52 u53 u54 u55 u56 u57 u58 u59 u60 u61 u62 u63 u64 u65 u66 u67 u68 u69 u70 u71 u72 u73 u74 u75 : Value) (K : Act → World → Prop) (R : Ending → World → Prop) (fn : Func)
    (hst : StoreAt wg g q x5) (hB : Blk wg B 90 #[.int .i64 a0, .int .i64 th, .string s2, .int .i64 a3, vk, vm, .int .i64 a6, .int .i64 a7]) (hBq : B ∉ q.own g) (hes : es.length = ne) (hne : ne ≤ 4294967296) (hlog : 1 ≤ x6.log.most ∧ x6.log.most ≤ 1099511627776 ∧ x6.log.es.length ≤ 1099511627776)
    (hwi : ∀ W, Below wg.heap.size wg W → Calls Tryz.prog 75 #[.agg #[.int .i64 a0, .int .i64 th, .string s2, .int .i64 a3, vk, vm, .int .i64 a6, .int .i64 a7]] W fun e w' => ∃ A3 n3 p3 h3, e = .returned (.slice A3 n3 p3) ∧ Sl w' 3 1 (.slice A3 n3 p3) h3 n3 (is.map encI) ∧ n3 = is.length ∧ Below W.heap.size W w')
    (htu : ∀ W A3 n3 p3 h3, Below wg.heap.size wg W → Sl W 3 1 (.slice A3 n3 p3) h3 n3 (is.map encI) → n3 = is.length → Calls Tryz.prog 70 #[.pointer (some ⟨g, 0, none⟩), .int .i64 mod, .slice A3 n3 p3] W fun e w' => ∃ v' hh, e = .returned v' ∧ Sl w' 144 4 v' hh ne (flatE es) ∧ (∀ b, hh = some b → W.heap.size ≤ b) ∧ Turned W w' g q x6 q)
    (hQ : ∀ (v56 v57 v58 v59 v60 v61 v62 v63 v64 v65 v66 v67 v68 v69 v70 v71 v72 v73 v74 v75 : Value) (wx : World) (q2 : Lies), Turned wg wx g q { x6 with log := x6.log.add (es ++ [⟨mod, 2, id, 3⟩, ⟨mod, 3, th, how⟩]) } q2 → K ⟨#[.pointer (some ⟨g, 0, none⟩), .int .i64 id, u2, u3, u4, u5, .int .i64 mod, .pointer (some ⟨B, 0, none⟩), .int .i64 how, u9, u10, u11, u12, u13, u14, u15, u16, u17, u18, u19, u20, u21, u22, u23, u24, u25, u26, u27, u28, u29, u30, u31, u32, u33, u34, u35, u36, u37, u38, u39, u40, u41, u42, u43, u44, u45, u46, u47, u48, u49, u50, u51, u52, u53, u54, u55, v56, v57, v58, v59, v60, v61, v62, v63, v64, v65, v66, v67, v68, v69, v70, v71, v72, v73, v74, v75], []⟩ wx) :
    Code.wp Tryz.prog (pickR 15 (Tryz.f21.body.getD .skip)) (Exit.then K (bodyPost Tryz.prog fn R)) ⟨#[.pointer (some ⟨g, 0, none⟩), .int .i64 id, u2, u3, u4, u5, .int .i64 mod, .pointer (some ⟨B, 0, none⟩), .int .i64 how, u9, u10, u11, u12, u13, u14, u15, u16, u17, u18, u19, u20, u21, u22, u23, u24, u25, u26, u27, u28, u29, u30, u31, u32, u33, u34, u35, u36, u37, u38, u39, u40, u41, u42, u43, u44, u45, u46, u47, u48, u49, u50, u51, u52, u53, u54, u55, u56, u57, u58, u59, u60, u61, u62, u63, u64, u65, u66, u67, u68, u69, u70, u71, u72, u73, u74, u75], []⟩ wg := by
  obtain ⟨e0, he, he0, he1, he2⟩ := info_parts Try.infoEntry
  have hgl := hst.blk.lt
  have hBl := hB.lt
  have c12 : wg.cell? ⟨g, 12, none⟩ = some (.pointer (some ⟨q.gl, 0, none⟩)) := hst.cell12
  have c12a := (World.cell?_alloc_lt wg (.cells #[.int .i64 mod, .int .i64 2, .int .i64 id, .int .i64 3, .int .i64 mod, .int .i64 3, .int .i64 th, .int .i64 how] 144) ⟨g, 12, none⟩ hgl).trans c12
  have b0 : wg.cell? ⟨B, 0, none⟩ = some (.int .i64 a0) := hB.cell 0
  have ba0 := (World.cell?_alloc_lt wg (.cells #[.int .i64 mod, .int .i64 2, .int .i64 id, .int .i64 3, .int .i64 mod, .int .i64 3, .int .i64 th, .int .i64 how] 144) ⟨B, 0, none⟩ hBl).trans b0
  have b1 : wg.cell? ⟨B, 1, none⟩ = some (.int .i64 th) := hB.cell 1
  have ba1 := (World.cell?_alloc_lt wg (.cells #[.int .i64 mod, .int .i64 2, .int .i64 id, .int .i64 3, .int .i64 mod, .int .i64 3, .int .i64 th, .int .i64 how] 144) ⟨B, 1, none⟩ hBl).trans b1
  have b2 : wg.cell? ⟨B, 2, none⟩ = some (.string s2) := hB.cell 2
  have ba2 := (World.cell?_alloc_lt wg (.cells #[.int .i64 mod, .int .i64 2, .int .i64 id, .int .i64 3, .int .i64 mod, .int .i64 3, .int .i64 th, .int .i64 how] 144) ⟨B, 2, none⟩ hBl).trans b2
  have b3 : wg.cell? ⟨B, 3, none⟩ = some (.int .i64 a3) := hB.cell 3
  have ba3 := (World.cell?_alloc_lt wg (.cells #[.int .i64 mod, .int .i64 2, .int .i64 id, .int .i64 3, .int .i64 mod, .int .i64 3, .int .i64 th, .int .i64 how] 144) ⟨B, 3, none⟩ hBl).trans b3
  have b4 : wg.cell? ⟨B, 4, none⟩ = some (vk) := hB.cell 4
  have ba4 := (World.cell?_alloc_lt wg (.cells #[.int .i64 mod, .int .i64 2, .int .i64 id, .int .i64 3, .int .i64 mod, .int .i64 3, .int .i64 th, .int .i64 how] 144) ⟨B, 4, none⟩ hBl).trans b4
  have b5 : wg.cell? ⟨B, 5, none⟩ = some (vm) := hB.cell 5
  have ba5 := (World.cell?_alloc_lt wg (.cells #[.int .i64 mod, .int .i64 2, .int .i64 id, .int .i64 3, .int .i64 mod, .int .i64 3, .int .i64 th, .int .i64 how] 144) ⟨B, 5, none⟩ hBl).trans b5
  have b6 : wg.cell? ⟨B, 6, none⟩ = some (.int .i64 a6) := hB.cell 6
  have ba6 := (World.cell?_alloc_lt wg (.cells #[.int .i64 mod, .int .i64 2, .int .i64 id, .int .i64 3, .int .i64 mod, .int .i64 3, .int .i64 th, .int .i64 how] 144) ⟨B, 6, none⟩ hBl).trans b6
  have b7 : wg.cell? ⟨B, 7, none⟩ = some (.int .i64 a7) := hB.cell 7
  have ba7 := (World.cell?_alloc_lt wg (.cells #[.int .i64 mod, .int .i64 2, .int .i64 id, .int .i64 3, .int .i64 mod, .int .i64 3, .int .i64 th, .int .i64 how] 144) ⟨B, 7, none⟩ hBl).trans b7
  have HTU := Lib.hid htu
  have HWI := Lib.hid hwi
  have HST5 := Lib.hid hst
  have HBB := Lib.hid hB
  have HBQ := Lib.hid hBq
  have HLOG := Lib.hid hlog
  have HES := Lib.hid hes
  have HQ := Lib.hid hQ
  clear htu hwi hst hB hBq hlog hes hQ
  unfold Tryz.f21
  simp only [Option.getD_some, pickR, Nat.reduceEqDiff, if_true, if_false, reduceCtorEq]
  go_region_law (first
    | (refine step_call (by rfl) (by rfl) (enters_of Tryz.func75 (by kernel_rfl) rfl) (by first | (simp [Act.eval]; done) | simp [Act.eval, Act.put]) (HWI.out _ (below_drew1 wg)) ?_; rintro e w7 ⟨A3, n3, p3, h3, rfl, hs7, hn7, hb7⟩; refine ⟨_, rfl, ?_⟩; have hw7 := below_then (below_drew1 wg) hb7; have hg7 : g < w7.heap.size := Nat.lt_of_lt_of_le hgl hw7.size; have m12 := (hw7.cell (p := ⟨g, 12, none⟩) hgl).trans c12; have m12a := (World.cell?_alloc_lt w7 (.cells #[.int .i64 mod, .int .i64 2, .int .i64 id, .int .i64 3, .int .i64 mod, .int .i64 3, .int .i64 th, .int .i64 how] 144) ⟨g, 12, none⟩ hg7).trans m12; have m1 : w7.cell? ⟨B, 1, none⟩ = some (.int .i64 th) := (hw7.cell (p := ⟨B, 1, none⟩) hBl).trans b1;  have HW7 := Lib.hid hw7; have HS7 := Lib.hid hs7; have HN7 := Lib.hid hn7; clear hb7 hw7 hs7 hn7)
    | (refine step_call (by rfl) (by rfl) (enters_of Tryz.func75 (by kernel_rfl) rfl) (by first | (simp [Act.eval]; done) | simp [Act.eval, Act.put]) (HWI.out _ (below_then (below_alloc1 wg (.cells #[.int .i64 mod, .int .i64 2, .int .i64 id, .int .i64 3, .int .i64 mod, .int .i64 3, .int .i64 th, .int .i64 how] 144)) (below_drew1 _))) ?_; rintro e w7 ⟨A3, n3, p3, h3, rfl, hs7, hn7, hb7⟩; refine ⟨_, rfl, ?_⟩; have hw7 := below_then (below_then (below_alloc1 wg (.cells #[.int .i64 mod, .int .i64 2, .int .i64 id, .int .i64 3, .int .i64 mod, .int .i64 3, .int .i64 th, .int .i64 how] 144)) (below_drew1 _)) hb7; have hg7 : g < w7.heap.size := Nat.lt_of_lt_of_le hgl hw7.size; have m12 := (hw7.cell (p := ⟨g, 12, none⟩) hgl).trans c12; have m12a := (World.cell?_alloc_lt w7 (.cells #[.int .i64 mod, .int .i64 2, .int .i64 id, .int .i64 3, .int .i64 mod, .int .i64 3, .int .i64 th, .int .i64 how] 144) ⟨g, 12, none⟩ hg7).trans m12; have m1 : w7.cell? ⟨B, 1, none⟩ = some (.int .i64 th) := (hw7.cell (p := ⟨B, 1, none⟩) hBl).trans b1; have HL7 : Hid (Blk w7 wg.heap.size 144 #[.int .i64 mod, .int .i64 2, .int .i64 id, .int .i64 3, .int .i64 mod, .int .i64 3, .int .i64 th, .int .i64 how]) := Lib.hid (((Blk.new wg 144 #[.int .i64 mod, .int .i64 2, .int .i64 id, .int .i64 3, .int .i64 mod, .int .i64 3, .int .i64 th, .int .i64 how]).heap (w' := (wg.alloc (.cells #[.int .i64 mod, .int .i64 2, .int .i64 id, .int .i64 3, .int .i64 mod, .int .i64 3, .int .i64 th, .int .i64 how] 144)).drew) rfl).below hb7 (by show wg.heap.size < (wg.alloc _).heap.size; rw [World.size_alloc]; omega)); have HW7 := Lib.hid hw7; have HS7 := Lib.hid hs7; have HN7 := Lib.hid hn7; clear hb7 hw7 hs7 hn7)
    | (refine step_call (by rfl) (by rfl) (enters_of Tryz.func70 (by kernel_rfl) rfl) (by first | (simp [Act.eval]; done) | simp [Act.eval, Act.put]) (HTU.out w7 _ _ _ _ HW7.out HS7.out HN7.out) ?_; rintro e w8 ⟨v8, h8, rfl, hs8, ho8, ht8⟩; obtain ⟨A8, c8, rfl, _, _⟩ := hs8.form; refine ⟨_, rfl, ?_⟩; have d12 : w8.cell? ⟨g, 12, none⟩ = some (.pointer (some ⟨q.gl, 0, none⟩)) := ht8.at_.cell12; have ht8b := (Turned.of_below HST5.out HW7.out).trans ht8; have hg8 : g < w8.heap.size := Nat.lt_of_lt_of_le hgl ht8b.chg.size; have d12a := (World.cell?_alloc_lt w8 (.cells #[.int .i64 mod, .int .i64 2, .int .i64 id, .int .i64 3, .int .i64 mod, .int .i64 3, .int .i64 th, .int .i64 how] 144) ⟨g, 12, none⟩ hg8).trans d12; have d1 : w8.cell? ⟨B, 1, none⟩ = some (.int .i64 th) := (HBB.out.chg ht8b.chg HBQ.out).cell 1; have HL8 : Hid (Blk w8 wg.heap.size 144 #[.int .i64 mod, .int .i64 2, .int .i64 id, .int .i64 3, .int .i64 mod, .int .i64 3, .int .i64 th, .int .i64 how]) := Lib.hid (HL7.out.chg ht8.chg (fun hm => Nat.lt_irrefl _ (HST5.out.lt _ hm))); have HS8 := Lib.hid hs8; have HO8 : Hid (∀ b, h8 = some b → wg.heap.size ≤ b) := Lib.hid (fun b hb => Nat.le_trans (Below.size HW7.out) (ho8 b hb)); have HT8 := Lib.hid ht8b; clear hs8 ho8 ht8 ht8b)
    | (refine step_call (by rfl) (by rfl) (enters_of Tryz.func70 (by kernel_rfl) rfl) (by first | (simp [Act.eval]; done) | simp [Act.eval, Act.put]) (HTU.out w7 _ _ _ _ HW7.out HS7.out HN7.out) ?_; rintro e w8 ⟨v8, h8, rfl, hs8, ho8, ht8⟩; obtain ⟨A8, c8, rfl, _, _⟩ := hs8.form; refine ⟨_, rfl, ?_⟩; have d12 : w8.cell? ⟨g, 12, none⟩ = some (.pointer (some ⟨q.gl, 0, none⟩)) := ht8.at_.cell12; have ht8b := (Turned.of_below HST5.out HW7.out).trans ht8; have hg8 : g < w8.heap.size := Nat.lt_of_lt_of_le hgl ht8b.chg.size; have d12a := (World.cell?_alloc_lt w8 (.cells #[.int .i64 mod, .int .i64 2, .int .i64 id, .int .i64 3, .int .i64 mod, .int .i64 3, .int .i64 th, .int .i64 how] 144) ⟨g, 12, none⟩ hg8).trans d12; have d1 : w8.cell? ⟨B, 1, none⟩ = some (.int .i64 th) := (HBB.out.chg ht8b.chg HBQ.out).cell 1;  have HS8 := Lib.hid hs8; have HO8 : Hid (∀ b, h8 = some b → wg.heap.size ≤ b) := Lib.hid (fun b hb => Nat.le_trans (Below.size HW7.out) (ho8 b hb)); have HT8 := Lib.hid ht8b; clear hs8 ho8 ht8 ht8b)
    | (refine step_call (by rfl) (by rfl) (enters_of Tryz.func70 (by kernel_rfl) rfl) (by first | (simp [Act.eval]; done) | simp [Act.eval, Act.put]) (HTU.out (w7.alloc (.cells #[.int .i64 mod, .int .i64 2, .int .i64 id, .int .i64 3, .int .i64 mod, .int .i64 3, .int .i64 th, .int .i64 how] 144)) _ _ _ _ (below_then HW7.out (below_alloc1 w7 _)) (HS7.out.alloc _) HN7.out) ?_; rintro e w8 ⟨v8, h8, rfl, hs8, ho8, ht8⟩; obtain ⟨A8, c8, rfl, _, _⟩ := hs8.form; refine ⟨_, rfl, ?_⟩; have d12 : w8.cell? ⟨g, 12, none⟩ = some (.pointer (some ⟨q.gl, 0, none⟩)) := ht8.at_.cell12; have ht8b := (Turned.of_below HST5.out (below_then HW7.out (below_alloc1 w7 _))).trans ht8; have hg8 : g < w8.heap.size := Nat.lt_of_lt_of_le hgl ht8b.chg.size; have d12a := (World.cell?_alloc_lt w8 (.cells #[.int .i64 mod, .int .i64 2, .int .i64 id, .int .i64 3, .int .i64 mod, .int .i64 3, .int .i64 th, .int .i64 how] 144) ⟨g, 12, none⟩ hg8).trans d12; have d1 : w8.cell? ⟨B, 1, none⟩ = some (.int .i64 th) := (HBB.out.chg ht8b.chg HBQ.out).cell 1; have HL8 : Hid (Blk w8 w7.heap.size 144 #[.int .i64 mod, .int .i64 2, .int .i64 id, .int .i64 3, .int .i64 mod, .int .i64 3, .int .i64 th, .int .i64 how]) := Lib.hid ((Blk.new w7 144 #[.int .i64 mod, .int .i64 2, .int .i64 id, .int .i64 3, .int .i64 mod, .int .i64 3, .int .i64 th, .int .i64 how]).chg ht8.chg (fun hm => by have h1 := HST5.out.lt _ hm; have h2 := HW7.out.size; omega)); have HS8 := Lib.hid hs8; have HO8 : Hid (∀ b, h8 = some b → wg.heap.size ≤ b) := Lib.hid (fun b hb => Nat.le_trans (Below.size (below_then HW7.out (below_alloc1 w7 _))) (ho8 b hb)); have HT8 := Lib.hid ht8b; clear hs8 ho8 ht8 ht8b)
    | (refine step_append_sl _ (by rfl) (.tmp 64) (.tmp 73) _ (by rfl) Tryz.underlying141 he he0 he1 he2 rfl (by omega) (HS8.out.alloc _) (by first | (simp [Act.eval]; done) | simp [Act.eval, Act.put]) w8.heap.size #[.int .i64 mod, .int .i64 2, .int .i64 id, .int .i64 3, .int .i64 mod, .int .i64 3, .int .i64 th, .int .i64 how] (e' := 144) (fr := (0, 0)) (heap_alloc_new w8 _) 2 2 (by first | (simp [Act.eval]; done) | simp [Act.eval, Act.put]) (by rfl) (by simp [Value.oneCell']) (by unfold maxLen; omega) (by omega) ?_; intro v2 h2 w9 hs9 hc9 ho9; obtain ⟨A10, c10, rfl, _, _⟩ := hs9.form; obtain ⟨ht9, hadd⟩ := tailB (e := (es ++ [⟨mod, 2, id, 3⟩, ⟨mod, 3, th, how⟩])) HST5.out HT8.out HO8.out (below_alloc1 w8 _) (by rw [flatE_append]; exact hs9) hc9 ho9 (by rw [List.length_append, HES.out]; rfl) (by omega) HLOG.out; have k12 : w9.cell? ⟨g, 12, none⟩ = some (.pointer (some ⟨q.gl, 0, none⟩)) := ht9.at_.cell12; have HT9 := Lib.hid ht9; have HADD := Lib.hid hadd; clear hs9 hc9 ho9 ht9 hadd)
    | (refine step_append_sl _ (by rfl) (.tmp 64) (.tmp 73) _ (by rfl) Tryz.underlying141 he he0 he1 he2 rfl (by omega) HS8.out (by first | (simp [Act.eval]; done) | simp [Act.eval, Act.put]) wg.heap.size #[.int .i64 mod, .int .i64 2, .int .i64 id, .int .i64 3, .int .i64 mod, .int .i64 3, .int .i64 th, .int .i64 how] (e' := 144) (fr := (0, 0)) HL8.out 2 2 (by first | (simp [Act.eval]; done) | simp [Act.eval, Act.put]) (by rfl) (by simp [Value.oneCell']) (by unfold maxLen; omega) (by omega) ?_; intro v2 h2 w9 hs9 hc9 ho9; obtain ⟨A10, c10, rfl, _, _⟩ := hs9.form; obtain ⟨ht9, hadd⟩ := tailB (e := (es ++ [⟨mod, 2, id, 3⟩, ⟨mod, 3, th, how⟩])) HST5.out HT8.out HO8.out (Below.refl _ w8) (by rw [flatE_append]; exact hs9) hc9 ho9 (by rw [List.length_append, HES.out]; rfl) (by omega) HLOG.out; have k12 : w9.cell? ⟨g, 12, none⟩ = some (.pointer (some ⟨q.gl, 0, none⟩)) := ht9.at_.cell12; have HT9 := Lib.hid ht9; have HADD := Lib.hid hadd; clear hs9 hc9 ho9 ht9 hadd)
    | (refine step_append_sl _ (by rfl) (.tmp 64) (.tmp 73) _ (by rfl) Tryz.underlying141 he he0 he1 he2 rfl (by omega) HS8.out (by first | (simp [Act.eval]; done) | simp [Act.eval, Act.put]) w7.heap.size #[.int .i64 mod, .int .i64 2, .int .i64 id, .int .i64 3, .int .i64 mod, .int .i64 3, .int .i64 th, .int .i64 how] (e' := 144) (fr := (0, 0)) HL8.out 2 2 (by first | (simp [Act.eval]; done) | simp [Act.eval, Act.put]) (by rfl) (by simp [Value.oneCell']) (by unfold maxLen; omega) (by omega) ?_; intro v2 h2 w9 hs9 hc9 ho9; obtain ⟨A10, c10, rfl, _, _⟩ := hs9.form; obtain ⟨ht9, hadd⟩ := tailB (e := (es ++ [⟨mod, 2, id, 3⟩, ⟨mod, 3, th, how⟩])) HST5.out HT8.out HO8.out (Below.refl _ w8) (by rw [flatE_append]; exact hs9) hc9 ho9 (by rw [List.length_append, HES.out]; rfl) (by omega) HLOG.out; have k12 : w9.cell? ⟨g, 12, none⟩ = some (.pointer (some ⟨q.gl, 0, none⟩)) := ht9.at_.cell12; have HT9 := Lib.hid ht9; have HADD := Lib.hid hadd; clear hs9 hc9 ho9 ht9 hadd)
    | (refine step_call (by rfl) (by rfl) (enters_of Tryz.func69 (by kernel_rfl) rfl) (by first | (simp [Act.eval]; done) | simp [Act.eval, Act.put]) HADD.out ?_; rintro e w10 ⟨rfl, q10, ht10⟩; refine ⟨_, rfl, ?_⟩; have HT10 := Lib.hid ht10; clear ht10)
    | fail)
  all_goals exact HQ.out _ _ _ _ _ _ _ _ _ _ _ _ _ _ _ _ _ _ _ _ _ _ (HT9.out.trans HT10.out)

end Go.Proofs.YtgkfknbhkonfdaaGreatDoor

namespace Go.Proofs.YtgkfknbhkonfdaaGreatDoor
open Go.Shelf Go.RowKit
attribute [local go_sem ↓] Go.wp_at_zero Go.wp_at_succ

theorem flatG_erase {α : Type} {enc : α → List Value} {k : Nat} (he : ∀ x, (enc x).length = k) : ∀ (l : List α) (i : Nat), flatG enc (l.eraseIdx i) = (flatG enc l).take (i * k) ++ (flatG enc l).drop ((i + 1) * k)
  | [], i => by simp [flatG]
  | a :: r, 0 => by
    show flatG enc r = ((enc a ++ flatG enc r).take (0 * k)) ++ ((enc a ++ flatG enc r).drop ((0 + 1) * k))
    rw [Nat.zero_mul, List.take_zero, List.nil_append, Nat.zero_add, Nat.one_mul, ← he a, List.drop_left]
  | a :: r, i + 1 => by
    show enc a ++ flatG enc (r.eraseIdx i) = ((enc a ++ flatG enc r).take ((i + 1) * k)) ++ ((enc a ++ flatG enc r).drop ((i + 1 + 1) * k))
    have e1 : (i + 1) * k = k + i * k := by rw [Nat.add_mul, Nat.one_mul, Nat.add_comm]
    have e2 : (i + 1 + 1) * k = k + (i + 1) * k := by rw [Nat.add_mul (i + 1), Nat.one_mul, Nat.add_comm]
    have h1 : (enc a ++ flatG enc r).take ((i + 1) * k) = enc a ++ (flatG enc r).take (i * k) := by rw [e1, ← he a, List.take_length_add_append]
    have h2 : (enc a ++ flatG enc r).drop ((i + 1 + 1) * k) = (flatG enc r).drop ((i + 1) * k) := by
      have h3 := List.drop_length_add_append (l₁ := enc a) (l₂ := flatG enc r) ((i + 1) * k)
      rw [he a] at h3
      rw [e2]
      exact h3
    rw [flatG_erase he r i, h1, h2, List.append_assoc]
theorem map_erase {α β : Type} (f : α → β) : ∀ (l : List α) (i : Nat), (l.eraseIdx i).map f = (l.map f).eraseIdx i
  | [], _ => rfl
  | _ :: _, 0 => rfl
  | a :: r, i + 1 => by
    show f a :: (r.eraseIdx i).map f = f a :: (r.map f).eraseIdx i
    rw [map_erase f r i]

section
variable {w w' : World} {g : Nat} {q : Lies} {x : Acc}
/-- An email less. -/
theorem StoreAt.cutMail (h : StoreAt w g q x) {v' : Value} (i : Nat) (hi : i < x.mails.length) (hs : Sl w' 90 8 v' q.hm (x.mails.length - 1) ((flatG encM q.ms).take (i * 8) ++ (flatG encM q.ms).drop ((i + 1) * 8))) (hc : Chg q.hm.toList w w') :
    Turned w (w'.setCell ⟨g, 11, none⟩ v') g q { x with mails := x.mails.eraseIdx i } { q with vm := v', ms := q.ms.eraseIdx i } := by
  have ha := h.apart
  have hgl : g < w.heap.size := h.blk.lt
  have hco : Chg (q.own g) w (w'.setCell ⟨g, 11, none⟩ v') := (hc.mono fun k hk => .inl (Lies.own_hm (by simpa using hk))).set (p := ⟨g, 11, none⟩) (.inl Lies.own_g) v'
  have hown : ∀ k ∈ ({ q with vm := v', ms := q.ms.eraseIdx i } : Lies).own g, k ∈ q.own g ∨ w.heap.size ≤ k := fun k hk => .inl hk
  have hc2 : Chg (g :: q.hm.toList) w (w'.setCell ⟨g, 11, none⟩ v') := (hc.mono fun k hk => .inl (List.mem_cons_of_mem _ hk)).set (.inl (by simp)) v'
  refine ⟨⟨?_, ?_, ?_, ?_, ?_, fun a ha2 => (h.parts a (List.mem_of_mem_eraseIdx ha2)).step hco hown⟩, hco, hown⟩
  · have hB := (h.blk.chg hc (by simpa using ha.hm)).set 11 v'
    exact hB
  · exact h.log.chg hc2 (by
      simp only [List.mem_cons, Option.mem_toList, not_or]
      exact ⟨fun e => ha.gl e.symm, ha.lm⟩) (fun b hb => by
      simp only [List.mem_cons, Option.mem_toList, not_or]
      exact ⟨fun e => ha.hl (by rw [hb, e]), ha.em b hb⟩)
  · exact h.boxes.chg hc2 (fun b hb => by
      simp only [List.mem_cons, Option.mem_toList, not_or]
      exact ⟨fun e => ha.hb (by rw [hb, e]), ha.bm b hb⟩)
  · show (q.ms.eraseIdx i).map (·.p) = x.mails.eraseIdx i
    rw [← h.same, map_erase]
  · have h1 := hs.far (p := ⟨g, 11, none⟩) ha.hm v'
    show Sl _ _ 8 v' q.hm (x.mails.eraseIdx i).length (flatG encM (q.ms.eraseIdx i))
    rw [List.length_eraseIdx_of_lt hi, flatG_erase encM_length]
    exact h1
/-- A mailbox less. -/
theorem StoreAt.cutBox (h : StoreAt w g q x) {v' : Value} (i : Nat) (hi : i < x.boxes.length) (hs : Sl w' 80 6 v' q.hb (x.boxes.length - 1) ((flatG encB x.boxes).take (i * 6) ++ (flatG encB x.boxes).drop ((i + 1) * 6))) (hc : Chg q.hb.toList w w') :
    Turned w (w'.setCell ⟨g, 10, none⟩ v') g q { x with boxes := x.boxes.eraseIdx i } { q with vb := v' } := by
  have ha := h.apart
  have hgl : g < w.heap.size := h.blk.lt
  have hco : Chg (q.own g) w (w'.setCell ⟨g, 10, none⟩ v') := (hc.mono fun k hk => .inl (Lies.own_hb (by simpa using hk))).set (p := ⟨g, 10, none⟩) (.inl Lies.own_g) v'
  have hown : ∀ k ∈ ({ q with vb := v' } : Lies).own g, k ∈ q.own g ∨ w.heap.size ≤ k := fun k hk => .inl hk
  have hc2 : Chg (g :: q.hb.toList) w (w'.setCell ⟨g, 10, none⟩ v') := (hc.mono fun k hk => .inl (List.mem_cons_of_mem _ hk)).set (.inl (by simp)) v'
  refine ⟨⟨?_, ?_, ?_, h.same, ?_, fun a ha2 => (h.parts a ha2).step hco hown⟩, hco, hown⟩
  · have hB := (h.blk.chg hc (by simpa using ha.hb)).set 10 v'
    exact hB
  · exact h.log.chg hc2 (by
      simp only [List.mem_cons, Option.mem_toList, not_or]
      exact ⟨fun e => ha.gl e.symm, ha.lb⟩) (fun b hb => by
      simp only [List.mem_cons, Option.mem_toList, not_or]
      exact ⟨fun e => ha.hl (by rw [hb, e]), ha.eb b hb⟩)
  · have h1 := hs.far (p := ⟨g, 10, none⟩) ha.hb v'
    show Sl _ _ 6 v' q.hb (x.boxes.eraseIdx i).length (flatG encB (x.boxes.eraseIdx i))
    rw [List.length_eraseIdx_of_lt hi, flatG_erase encB_length]
    exact h1
  · exact h.mails.chg hc2 (fun b hb => by
      simp only [List.mem_cons, Option.mem_toList, not_or]
      exact ⟨fun e => ha.hm (by rw [hb, e]), fun e => ha.bm b e hb⟩)
end

theorem flatM_one {w : World} {g : Nat} {q : Lies} {x : Acc} (h : StoreAt w g q x) : ∀ u ∈ flatG encM q.ms, u.oneCell' = true := by
  intro u hu
  obtain ⟨m, hm, hu2⟩ := List.mem_flatMap.1 hu
  obtain ⟨A1, c1, hk, _, _⟩ := (h.parts m hm).keys.form
  obtain ⟨A2, c2, hv, _, _⟩ := (h.parts m hm).mem.form
  simp only [encM, List.mem_cons, List.not_mem_nil, or_false] at hu2
  rcases hu2 with rfl | rfl | rfl | rfl | rfl | rfl | rfl | rfl
  all_goals first | rfl | (rw [hk]; rfl) | (rw [hv]; rfl)
theorem Turned.then_below' {w W W2 : World} {g : Nat} {q q' : Lies} {x1 : Acc} (h : Turned w W g q x1 q') (hb : Below W.heap.size W W2) : Turned w W2 g q x1 q' := h.trans (Turned.of_below h.at_ hb)
theorem destPred_any (th : Int) (B : Nat) (w W : World) (x : MailM) (hB : w.cell? ⟨B, 1, none⟩ = some (.int .i64 th)) (hb : Below w.heap.size w W) :
    Calls Tryz.prog 74 (#[.agg (encM x).toArray] ++ #[.pointer (some ⟨B, 0, none⟩)]) W fun e w' => e = .returned (.bool (decide (x.p.thread = th))) ∧ Below w.heap.size w w' := by
  have hlt := World.block_lt_of_cell? _ _ hB
  have hc := (hb.cell (p := ⟨B, 1, none⟩) hlt).trans hB
  have hlt2 : B < W.heap.size := Nat.lt_of_lt_of_le hlt hb.size
  obtain ⟨⟨i, t, tx, ta, ks, me, mo, bo⟩, kv, mv⟩ := x
  show Calls Tryz.prog 74 #[.agg #[.int .i64 i, .int .i64 t, .string ⟨tx.toArray⟩, .int .i64 ta, kv, mv, .int .i64 mo, .int .i64 bo], .pointer (some ⟨B, 0, none⟩)] W _
  have hc2 : (W.alloc (.cells #[.int .i64 i, .int .i64 t, .string ⟨tx.toArray⟩, .int .i64 ta, kv, mv, .int .i64 mo, .int .i64 bo] 90)).cell? ⟨B, 1, none⟩ = some (.int .i64 th) := (World.cell?_alloc_lt W _ _ hlt2).trans hc
  have HB := Lib.hid hb
  clear hb hc hB
  by_cases hi : t = th
  · subst hi
    simp only [decide_true]
    go_enter Tryz.func74, Tryz.ntmps74
    go_wp2
    go_ret
    exact ⟨rfl, HB.out.alloc HB.out.size _⟩
  · have e : (t == th) = false := by simpa using hi
    have e2 : decide (t = th) = false := decide_eq_false hi
    simp only [e2]
    clear e2 hi
    go_enter Tryz.func74, Tryz.ntmps74
    go_wp2
    go_ret
    exact ⟨rfl, HB.out.alloc HB.out.size _⟩

set_option maxRecDepth 100000 in
set_option maxHeartbeats 4000000 in
theorem dest_none (w : World) (g : Nat) (q : Lies) (x : Acc) (id : Int) (h : StoreAt w g q x) (hf : Fit x) (hno : id ∉ idsMl x.mails) :
    Calls Tryz.prog 21 #[.pointer (some ⟨g, 0, none⟩), .int .i64 id] w (ErrOut w g q (destroyP x id)) := by
  have hno2 : id ∉ idsMl (q.ms.map (·.p)) := by rw [h.same]; exact hno
  obtain ⟨h1, h2⟩ := mail_none hno2
  rw [h.same] at h2
  have hres : destroyP x id = (x, 6) := by
    unfold destroyP
    rw [h2]
  rw [hres]
  have hmc := h.mc hf id
  rw [h1] at hmc
  have H := Lib.hid h
  clear hno hno2 h1 h2 hres h hf
  go_enter Tryz.func21, Tryz.ntmps21
  go_wp2_with (first
    | (go_at_call 71; refine hmc.mono ?_; rintro e w1 ⟨rfl, hb1⟩; have HB1 := Lib.hid hb1; clear hb1)
    | fail)
  go_ret
  exact ⟨rfl, q, Turned.of_below H.out HB1.out⟩

set_option maxRecDepth 100000 in
set_option maxHeartbeats 4000000 in
theorem dest_ends (w : World) (g : Nat) (q : Lies) (x : Acc) (id : Int) (h : StoreAt w g q x) (hf : Fit x) (i : Nat) (hi : i < q.ms.length) (hpl : place (fun m : MailM => decide (m.p.id = id)) q.ms = (i : Int)) (hfi : x.mails.find? (fun m => decide (m.id = id)) = some q.ms[i].p) (hen : x.cfg.maxMod ≤ x.clock) :
    Calls Tryz.prog 21 #[.pointer (some ⟨g, 0, none⟩), .int .i64 id] w (ErrOut w g q (destroyP x id)) := by
  have hres : destroyP x id = (x, 11) := by
    unfold destroyP
    rw [hfi]
    simp only
    rw [if_pos (by simp [Acc.ends, hen])]
  rw [hres]
  have hmc := h.mc hf id
  rw [hpl] at hmc
  have hi3 : ¬ (i : Int) < 0 := by omega
  have H := Lib.hid h
  clear hres hpl hfi h hf
  go_enter Tryz.func21, Tryz.ntmps21
  go_wp2_with (first
    | (go_at_call 71; refine hmc.mono ?_; rintro e w1 ⟨rfl, hb1⟩; have c6 : w1.cell? ⟨g, 6, none⟩ = some (.int .i64 x.cfg.maxMod) := (H.out.later hb1).cells 6; have c9 := (H.out.later hb1).cell9; have HB1 := Lib.hid hb1; clear hb1 hmc)
    | (go_at_call 63; refine (ends_any g x.clock x.cfg.maxMod _ ((cell_heap (w := w1) (by rfl) _).trans c9) ((cell_heap (w := w1) (by rfl) _).trans c6)).mono ?_; rintro e w4 ⟨rfl, ne, rfl⟩)
    | fail)
  go_ret
  exact ⟨rfl, q, (Turned.of_below H.out HB1.out).then_below (below_drewN' (Below.refl _ _) _)⟩

set_option maxRecDepth 100000 in
set_option maxHeartbeats 4000000 in
theorem dest_ok (w : World) (g : Nat) (q : Lies) (x : Acc) (id : Int) (h : StoreAt w g q x) (hf : Fit x) (i : Nat) (hi : i < q.ms.length) (hpl : place (fun m : MailM => decide (m.p.id = id)) q.ms = (i : Int)) (hfi : x.mails.find? (fun m => decide (m.id = id)) = some q.ms[i].p) (hmo : mailOf id x.mails = (i : Int)) (hen : ¬ x.cfg.maxMod ≤ x.clock) :
    Calls Tryz.prog 21 #[.pointer (some ⟨g, 0, none⟩), .int .i64 id] w (ErrOut w g q (destroyP x id)) := by
  have hil : i < x.mails.length := by rw [← h.msLen]; exact hi
  obtain ⟨b, off, cap, hv, hhm, hnc, hcm, hblt, hat⟩ := h.mailAt i hil hi
  obtain ⟨m0, hm0⟩ : ∃ m0, q.ms[i] = m0 := ⟨_, rfl⟩
  rw [hm0] at hfi hat
  have hp0 := h.parts _ (List.getElem_mem hi)
  rw [hm0] at hp0
  obtain ⟨Ak0, ck0, hkv, _, _⟩ := hp0.keys.form
  obtain ⟨Av0, cv0, hmv, _, _⟩ := hp0.mem.form
  obtain ⟨rr, hrr⟩ : ∃ rr, destroyP x id = rr := ⟨_, rfl⟩
  rw [hrr]
  have hres : rr = ({ x with clock := x.clock + 1, boxes := turnBoxes (x.clock + 1) (rise (ids1 m0.p.members)) x.boxes, mails := x.mails.eraseIdx i, octets := x.octets - m0.p.text.length, log := x.log.add (turnEnts (x.clock + 1) (rise (ids1 m0.p.members)) ++ [⟨x.clock + 1, 2, id, 3⟩, ⟨x.clock + 1, 3, m0.p.thread, if (x.mails.eraseIdx i).any (fun y => decide (y.thread = m0.p.thread)) then 2 else 3⟩]) }, 0) := by
    rw [← hrr]
    unfold destroyP
    rw [hfi]
    simp only
    rw [if_neg (by simp [Acc.ends]; omega), hmo]
    rfl
  have hmx : m0.p ∈ x.mails := by rw [← h.same, ← hm0]; exact List.mem_map_of_mem (List.getElem_mem hi)
  have hnme := hf.nmem hmx
  have hmc := h.mc hf id
  rw [hpl] at hmc
  have hgl := h.blk.lt
  obtain ⟨n, hnn⟩ : ∃ n, x.mails.length = n := ⟨_, rfl⟩
  rw [hnn] at hil hnc hv
  have hi1 : (i : Int) < (n : Int) := by omega
  have hi2 : (0 : Int) ≤ (i : Int) := by omega
  have hi3 : ¬ (i : Int) < 0 := by omega
  have hiw : IntKind.i64.wrap ((i : Int) + 1) = (i : Int) + 1 := IntWalk.i64_in _ (by have := hf.nm; have := hf.clock; have := hf.cfg.mod; omega)
  have hnb : n ≤ 1099511627776 := by have := hf.nm; have := hf.clock; have := hf.cfg.mod; omega
  have hcl := hf.clock
  have hmd := hf.cfg.mod
  have htx : (m0.p.text.length : Int) ≤ sizeM x.mails := sizeM_mem hmx
  have hoc := hf.octets
  have hocs := hf.cfg.size
  have how_ : IntKind.i64.wrap (x.octets - (m0.p.text.length : Int)) = x.octets - (m0.p.text.length : Int) := IntWalk.i64_in _ (by omega)
  have H := Lib.hid h
  have HFI := Lib.hid hf
  have HVM := Lib.hid hv
  have HM0 := Lib.hid hm0
  have HMV := Lib.hid hmv
  have HKV := Lib.hid hkv
  have HP0 := Lib.hid hp0
  have HNN := Lib.hid hnn
  have HMX := Lib.hid hmx
  have HRES := Lib.hid hres
  clear hpl hfi hmo hv hat hm0 hp0 hkv hmv hrr hres hmx hnn h hf htx hoc hocs
  go_enter Tryz.func21, Tryz.ntmps21
  go_upto_region 9 with (first
    | (go_at_call 71; refine hmc.mono ?_; rintro e w1 ⟨rfl, hb1⟩; have c6 : w1.cell? ⟨g, 6, none⟩ = some (.int .i64 x.cfg.maxMod) := (H.out.later hb1).cells 6; have c9 := (H.out.later hb1).cell9; have HB1 := Lib.hid hb1; clear hb1 hmc)
    | (go_at_call 63; refine (ends_any g x.clock x.cfg.maxMod _ ((cell_heap (w := w1) (by rfl) _).trans c9) ((cell_heap (w := w1) (by rfl) _).trans c6)).mono ?_; rintro e w4 ⟨rfl, ne, rfl⟩; have hb5 := (below_then HB1.out (below_drewN' (Below.refl w1.heap.size w1) ne)); have H5 := Lib.hid (H.out.later hb5); have hst5 := step_any g x.clock _ H5.out.cell9 (H5.out.frozen 9) (by omega); have HB5 := Lib.hid hb5; clear hb5)
    | (go_at_call 66; refine hst5.mono ?_; rintro e w6 ⟨rfl, hw6⟩; have t6 := H5.out.setStruct 9 (.int .i64 (x.clock + 1)) { x with clock := x.clock + 1 } rfl rfl rfl rfl; rw [← hw6] at t6; have m11 := t6.at_.cell11; rw [HVM.out] at m11; have T6 := Lib.hid ((Turned.of_below H.out HB5.out).trans t6); clear hst5 hw6 t6)
    | fail)
  clear c6 c9
  have hst6 := T6.out.at_
  obtain ⟨b', off', cap', hv', _, _, _, hblt6, hat6⟩ := hst6.mailAt i (by show i < x.mails.length; rw [HNN.out]; exact hil) hi
  rw [HVM.out] at hv'
  injection hv' with hv1 hvn hv3
  clear hvn
  injection hv1 with hv1
  injection hv1 with hv1 hv2
  subst hv1 hv2 hv3
  rw [HM0.out] at hat6
  have b0 : w6.cell? ⟨b, off + i * 8, none⟩ = some (.int .i64 m0.p.id) := (hat6 0 (by omega)).1
  have b1 : w6.cell? ⟨b, off + i * 8 + 1, none⟩ = some (.int .i64 m0.p.thread) := (hat6 1 (by omega)).1
  have b2 : w6.cell? ⟨b, off + i * 8 + 2, none⟩ = some (.string ⟨m0.p.text.toArray⟩) := (hat6 2 (by omega)).1
  have b3 : w6.cell? ⟨b, off + i * 8 + 3, none⟩ = some (.int .i64 m0.p.at_) := (hat6 3 (by omega)).1
  have b4 : w6.cell? ⟨b, off + i * 8 + 4, none⟩ = some (.slice Ak0 m0.p.keys.length ck0) := ((hat6 4 (by omega)).1).trans (by rw [← HKV.out]; rfl)
  have b5 : w6.cell? ⟨b, off + i * 8 + 5, none⟩ = some (.slice Av0 m0.p.members.length cv0) := ((hat6 5 (by omega)).1).trans (by rw [← HMV.out]; rfl)
  have b6 : w6.cell? ⟨b, off + i * 8 + 6, none⟩ = some (.int .i64 m0.p.mod) := (hat6 6 (by omega)).1
  have b7 : w6.cell? ⟨b, off + i * 8 + 7, none⟩ = some (.int .i64 m0.p.born) := (hat6 7 (by omega)).1
  have hml : Sl w6 90 8 (.slice (some ⟨b, off, none⟩) n cap) q.hm n (flatG encM q.ms) := by
    have h1 : Sl w6 90 8 q.vm q.hm x.mails.length (flatG encM q.ms) := hst6.mails
    rw [HVM.out, HNN.out] at h1
    exact h1
  have hpm : RdS w6 [] 2 (.slice Av0 m0.p.members.length cv0) m0.p.members.length (flatG encMem m0.p.members) := by
    have h1 := hst6.parts _ (List.getElem_mem hi)
    rw [HM0.out] at h1
    rw [← HMV.out]
    exact h1.mem.sub (fun _ _ _ hm => by cases hm)
  have hdel := delM_any (w6.alloc (.cells #[.int .i64 m0.p.id, .int .i64 m0.p.thread, .string ⟨m0.p.text.toArray⟩, .int .i64 m0.p.at_, .slice Ak0 m0.p.keys.length ck0, .slice Av0 m0.p.members.length cv0, .int .i64 m0.p.mod, .int .i64 m0.p.born] 90)) _ q.hm n _ (hml.alloc _) (flatM_one hst6) hnb i hil
  have hgl6 : g < w6.heap.size := hst6.blk.lt
  have m11a := (World.cell?_alloc_lt w6 (.cells #[.int .i64 m0.p.id, .int .i64 m0.p.thread, .string ⟨m0.p.text.toArray⟩, .int .i64 m0.p.at_, .slice Ak0 m0.p.keys.length ck0, .slice Av0 m0.p.members.length cv0, .int .i64 m0.p.mod, .int .i64 m0.p.born] 90) ⟨g, 11, none⟩ hgl6).trans m11
  have HPM := Lib.hid hpm
  have hgh : g ∉ q.hm.toList := fun hm => hst6.apart.hm (by simpa using hm)
  have HST6 := Lib.hid hst6
  clear hat6 hml hpm hst6
  go_upto_region 11 with (first
    | (go_at_call 72; refine hdel.mono ?_; rintro e w8 ⟨v8, rfl, hs8, hc8⟩; have k11 : w8.cell? ⟨g, 11, none⟩ = some (.slice (some ⟨b, off, none⟩) n cap) := (hc8.cell (p := ⟨g, 11, none⟩) (by rw [World.size_alloc]; simp; omega) hgh).trans m11a; have kf : w8.frozen? ⟨g, 11, none⟩ = false := (hc8.frozen (p := ⟨g, 11, none⟩) (by rw [World.size_alloc]; simp; omega) hgh).trans ((World.frozen?_alloc_past _ _ _ hgl6).trans (HST6.out.frozen 11)); obtain ⟨A8, c8, rfl, _, _⟩ := hs8.form; have HS8 := Lib.hid hs8; have HC8 := Lib.hid hc8; clear hdel hs8 hc8)
    | fail)
  obtain ⟨wa, hwa⟩ : ∃ wa : World, wa = w8.setCell ⟨g, 11, none⟩ (.slice A8 (n - 1) c8) := ⟨_, rfl⟩
  rw [← hwa]
  obtain ⟨B, hBe⟩ : ∃ B, B = w6.heap.size := ⟨_, rfl⟩
  rw [← hBe]
  obtain ⟨q7, hq7⟩ : ∃ q7 : Lies, q7 = { q with vm := .slice A8 (n - 1) c8, ms := q.ms.eraseIdx i } := ⟨_, rfl⟩
  have tcut := (HST6.out.alloc (.cells #[.int .i64 m0.p.id, .int .i64 m0.p.thread, .string ⟨m0.p.text.toArray⟩, .int .i64 m0.p.at_, .slice Ak0 m0.p.keys.length ck0, .slice Av0 m0.p.members.length cv0, .int .i64 m0.p.mod, .int .i64 m0.p.born] 90)).cutMail (v' := .slice A8 (n - 1) c8) i (by show i < x.mails.length; rw [HNN.out]; exact hil) (by
    show Sl w8 _ 8 _ q.hm (x.mails.length - 1) _
    rw [HNN.out]
    exact HS8.out) HC8.out
  rw [← hwa, ← hq7] at tcut
  have hTa : Turned w wa g q { x with clock := x.clock + 1, mails := x.mails.eraseIdx i } q7 := (T6.out.then_below (below_alloc1 w6 _)).trans tcut
  have hBa : Blk wa B 90 #[.int .i64 m0.p.id, .int .i64 m0.p.thread, .string ⟨m0.p.text.toArray⟩, .int .i64 m0.p.at_, .slice Ak0 m0.p.keys.length ck0, .slice Av0 m0.p.members.length cv0, .int .i64 m0.p.mod, .int .i64 m0.p.born] := by
    rw [hwa, hBe]
    exact ((Blk.new w6 90 #[.int .i64 m0.p.id, .int .i64 m0.p.thread, .string ⟨m0.p.text.toArray⟩, .int .i64 m0.p.at_, .slice Ak0 m0.p.keys.length ck0, .slice Av0 m0.p.members.length cv0, .int .i64 m0.p.mod, .int .i64 m0.p.born]).chg HC8.out (fun hm => Nat.lt_irrefl _ (HST6.out.lt _ (Lies.own_hm (by simpa using hm))))).far (p := ⟨g, 11, none⟩) (by simp; omega) _
  have hBn : B ∉ q7.own g := fun hm => by
    rw [hq7] at hm
    have h1 := HST6.out.lt B hm
    omega
  have hwba : Below w6.heap.size w6 w6 := Below.refl _ _
  have HTA := Lib.hid hTa
  have HBA := Lib.hid hBa
  have HBN := Lib.hid hBn
  have HQ7 := Lib.hid hq7
  have HBE := Lib.hid hBe
  have hBw : w.heap.size ≤ B := by
    rw [hBe]
    exact T6.out.chg.size
  clear hwa hBe hq7 tcut hTa hBa hBn hwba b0 b1 b2 b3 b4 b5 b6 b7 k11 kf m11 m11a hgl6 hblt6 HS8 HC8
  have c15 : wa.cell? ⟨g, 15, none⟩ = some (.int .i64 x.octets) := HTA.out.at_.cell15
  have f15 : wa.frozen? ⟨g, 15, none⟩ = false := HTA.out.at_.frozen 15
  have d2 : wa.cell? ⟨B, 2, none⟩ = some (.string ⟨m0.p.text.toArray⟩) := HBA.out.cell 2
  go_cut [] (fun wx => Hid (Turned w wx g q { x with clock := x.clock + 1, mails := x.mails.eraseIdx i, octets := x.octets - m0.p.text.length } q7) ∧ Hid (Blk wx B 90 #[.int .i64 m0.p.id, .int .i64 m0.p.thread, .string ⟨m0.p.text.toArray⟩, .int .i64 m0.p.at_, .slice Ak0 m0.p.keys.length ck0, .slice Av0 m0.p.members.length cv0, .int .i64 m0.p.mod, .int .i64 m0.p.born]))
  case first =>
    have tA : ∀ W : World, W.heap = wa.heap → W.os = wa.os → W.tape = wa.tape → W.output = wa.output → Turned w (W.setCell ⟨g, 15, none⟩ (.int .i64 (x.octets - m0.p.text.length))) g q { x with clock := x.clock + 1, mails := x.mails.eraseIdx i, octets := x.octets - m0.p.text.length } q7 ∧ Blk (W.setCell ⟨g, 15, none⟩ (.int .i64 (x.octets - m0.p.text.length))) B 90 #[.int .i64 m0.p.id, .int .i64 m0.p.thread, .string ⟨m0.p.text.toArray⟩, .int .i64 m0.p.at_, .slice Ak0 m0.p.keys.length ck0, .slice Av0 m0.p.members.length cv0, .int .i64 m0.p.mod, .int .i64 m0.p.born] := fun W he e1 e2 e3 => by
      have h1 : Turned w W g q { x with clock := x.clock + 1, mails := x.mails.eraseIdx i } q7 := HTA.out.then_below' (W2 := W) ⟨e1, e2, e3, Nat.le_of_eq (by rw [he]), fun _ _ => by rw [he]⟩
      refine ⟨h1.trans (h1.at_.setOctets _), (HBA.out.heap he).far (p := ⟨g, 15, none⟩) (fun e => HBN.out (by rw [e]; exact Lies.own_g)) _⟩
    have TA := Lib.hid tA
    clear tA
    go_region_law (first
      | fail)
    all_goals
      go_wp2_with fail
      go_meet
      exact ⟨Lib.hid (TA.out wa.drew rfl rfl rfl rfl).1, Lib.hid (TA.out wa.drew rfl rfl rfl rfl).2⟩
  case rest =>
    obtain ⟨HT9, HB9⟩ := hcut
    obtain ⟨wb, rfl⟩ : ∃ wb : World, wb = wc := ⟨_, rfl⟩
    clear c15 f15 d2 HTA HBA
    have c11 : wb.cell? ⟨g, 11, none⟩ = some (.slice A8 (n - 1) c8) := by
      have h1 := HT9.out.at_.cell11
      rw [HQ7.out] at h1
      exact h1
    obtain ⟨hb, hhb⟩ : ∃ hb, (x.mails.eraseIdx i).any (fun y => decide (y.thread = m0.p.thread)) = hb := ⟨_, rfl⟩
    have hcf : Calls Tryz.prog 73 #[.slice A8 (n - 1) c8, .func (.func 74) #[] #[.pointer (some ⟨B, 0, none⟩)]] wb fun e w' => e = .returned (.bool hb) ∧ Below wb.heap.size wb w' := by
      have hl := HT9.out.at_.msLen
      have hms := HT9.out.at_.same
      have hle : (x.mails.eraseIdx i).length = n - 1 := by
        rw [List.length_eraseIdx_of_lt (by rw [HNN.out]; exact hil), HNN.out]
      have h1 := hasM_any (.slice A8 (n - 1) c8) [] q7.ms (fun y => decide (y.p.thread = m0.p.thread)) 74 #[.pointer (some ⟨B, 0, none⟩)] (enters_of Tryz.func74 (by kernel_rfl) rfl) wb (by
        have h2 := HT9.out.at_.mails
        rw [show q7.vm = .slice A8 (n - 1) c8 by rw [HQ7.out]] at h2
        rw [hl]
        exact h2.reads [] (by simp)) (by rw [hl]; show (x.mails.eraseIdx i).length ≤ _; rw [hle]; omega) (fun W hbW y _ => destPred_any _ B wb W y (HB9.out.cell 1) hbW)
      have h3 : q7.ms.any (fun y => decide (y.p.thread = m0.p.thread)) = hb := by
        rw [← hhb]
        have h4 : (x.mails.eraseIdx i).any (fun y => decide (y.thread = m0.p.thread)) = (q7.ms.map (·.p)).any (fun y => decide (y.thread = m0.p.thread)) := by rw [hms]
        rw [h4, List.any_map]
        rfl
      rw [h3] at h1
      exact h1
    have HCF := Lib.hid hcf
    have HHB := Lib.hid hhb
    clear hcf hhb
    go_upto_if 55 with (first
      | (go_at_call 73; refine HCF.out.mono ?_; rintro e w10 ⟨rfl, hb10⟩; have HB10 := Lib.hid hb10; clear hb10)
      | fail)
    go_cut [8] (fun v wx => v = .int .i64 (if hb = true then 2 else 3) ∧ wx = w10)
    case first =>
      cases hb
      all_goals
        go_wp2_with fail
        go_meet
        exact ⟨rfl, rfl⟩
    case rest =>
      obtain ⟨rfl, rfl⟩ := hcut
      obtain ⟨wg, rfl⟩ : ∃ wg : World, wg = wc := ⟨_, rfl⟩
      obtain ⟨hw_, hhw⟩ : ∃ hw_ : Int, (if hb = true then (2 : Int) else 3) = hw_ := ⟨_, rfl⟩
      rw [hhw]
      obtain ⟨x3, hx3⟩ : ∃ x3 : Acc, x3 = { x with clock := x.clock + 1, mails := x.mails.eraseIdx i, octets := x.octets - m0.p.text.length } := ⟨_, rfl⟩
      have hTg : Turned w wg g q x3 q7 := by
        rw [hx3]
        exact HT9.out.then_below' HB10.out
      have hBg : Blk wg B 90 #[.int .i64 m0.p.id, .int .i64 m0.p.thread, .string ⟨m0.p.text.toArray⟩, .int .i64 m0.p.at_, .slice Ak0 m0.p.keys.length ck0, .slice Av0 m0.p.members.length cv0, .int .i64 m0.p.mod, .int .i64 m0.p.born] := HB9.out.below HB10.out HB9.out.lt
      have hb3 : x3.boxes = x.boxes := by rw [hx3]
      have hl3 : x3.log = x.log := by rw [hx3]
      have hisb : ∀ j ∈ ids1 m0.p.members, j ∈ ids x.boxes := HFI.out.memIn HMX.out
      have hbl : x.boxes.length ≤ 1099511627776 := by
        have := HFI.out.nb
        omega
      have hil1 : (ids1 m0.p.members).length = m0.p.members.length := by simp [ids1]
      have hmr : RdS wg [] 2 (.slice Av0 m0.p.members.length cv0) m0.p.members.length (flatG encMem m0.p.members) := by
        have h1 := HP0.out.mem.chg hTg.chg
        rw [HMV.out] at h1
        exact h1.sub (fun _ _ _ hm => by cases hm)
      have hwi : ∀ W : World, Below wg.heap.size wg W → Calls Tryz.prog 75 #[.agg #[.int .i64 m0.p.id, .int .i64 m0.p.thread, .string ⟨m0.p.text.toArray⟩, .int .i64 m0.p.at_, .slice Ak0 m0.p.keys.length ck0, .slice Av0 m0.p.members.length cv0, .int .i64 m0.p.mod, .int .i64 m0.p.born]] W fun e w' => ∃ A3 n3 p3 h3, e = .returned (.slice A3 n3 p3) ∧ Sl w' 3 1 (.slice A3 n3 p3) h3 n3 ((ids1 m0.p.members).map encI) ∧ n3 = (ids1 m0.p.members).length ∧ Below W.heap.size W w' := fun W hb => by
        refine (within_any W m0.p.id m0.p.thread m0.p.at_ m0.p.mod m0.p.born ⟨m0.p.text.toArray⟩ (.slice Ak0 m0.p.keys.length ck0) (.slice Av0 m0.p.members.length cv0) m0.p.members (hmr.below hb) (by omega)).mono ?_
        rintro e w' ⟨v, hh, rfl, hs, hfr, hbl⟩
        obtain ⟨A9, c9, rfl, _, _⟩ := hs.form
        exact ⟨A9, _, c9, hh, rfl, hs, hil1.symm, hbl⟩
      have htu : ∀ (W : World) (A3 : Option Addr) (n3 p3 : Nat) (h3 : Option Nat), Below wg.heap.size wg W → Sl W 3 1 (.slice A3 n3 p3) h3 n3 ((ids1 m0.p.members).map encI) → n3 = (ids1 m0.p.members).length → Calls Tryz.prog 70 #[.pointer (some ⟨g, 0, none⟩), .int .i64 (x.clock + 1), .slice A3 n3 p3] W fun e w' => ∃ v' hh, e = .returned v' ∧ Sl w' 144 4 v' hh (rise (ids1 m0.p.members)).length (flatE (turnEnts (x.clock + 1) (rise (ids1 m0.p.members)))) ∧ (∀ b, hh = some b → W.heap.size ≤ b) ∧ Turned W w' g q7 { x3 with boxes := turnBoxes (x.clock + 1) (rise (ids1 m0.p.members)) x3.boxes } q7 := fun W A3 n3 p3 h3 hb hs hn3 => by
        subst hn3
        exact turned_any W g q7 x3 (hTg.at_.later hb) (by rw [hb3]; exact hbl) (x.clock + 1) (ids1 m0.p.members) _ [] (hs.reads [] (by simp)) (by omega) (by rw [hb3]; exact hisb)
      have hlogm : 1 ≤ x3.log.most ∧ x3.log.most ≤ 1099511627776 ∧ x3.log.es.length ≤ 1099511627776 := by
        rw [hl3]
        have h1 := HFI.out.log
        have h2 := HFI.out.cfg.log
        rw [h1.1]
        omega
      have hne : (rise (ids1 m0.p.members)).length ≤ 4294967296 := Nat.le_trans (rise_length _) (by omega)
      have HTG := Lib.hid hTg
      have HBG := Lib.hid hBg
      have HTU := Lib.hid htu
      have HWI := Lib.hid hwi
      have HLOG := Lib.hid hlogm
      have HX3 := Lib.hid hx3
      have HHW := Lib.hid hhw
      clear hTg hBg hb3 hl3 hisb hbl hil1 hmr hwi htu hlogm hx3 hhw c11
      go_upto_region 15 with (fail)
      go_cut [] (fun wx => ∃ q'', Hid (Turned w wx g q { { x3 with boxes := turnBoxes (x.clock + 1) (rise (ids1 m0.p.members)) x3.boxes } with log := x3.log.add (turnEnts (x.clock + 1) (rise (ids1 m0.p.members)) ++ [⟨x.clock + 1, 2, id, 3⟩, ⟨x.clock + 1, 3, m0.p.thread, hw_⟩]) } q''))
      case first =>
        refine dest_tell wg g B q7 x3 { x3 with boxes := turnBoxes (x.clock + 1) (rise (ids1 m0.p.members)) x3.boxes } (x.clock + 1) id m0.p.thread hw_ m0.p.id m0.p.at_ m0.p.mod m0.p.born ⟨m0.p.text.toArray⟩ (.slice Ak0 m0.p.keys.length ck0) (.slice Av0 m0.p.members.length cv0) (rise (ids1 m0.p.members)).length (turnEnts (x.clock + 1) (rise (ids1 m0.p.members))) (ids1 m0.p.members) _ _ _ _ _ _ _ _ _ _ _ _ _ _ _ _ _ _ _ _ _ _ _ _ _ _ _ _ _ _ _ _ _ _ _ _ _ _ _ _ _ _ _ _ _ _ _ _ _ _ _ _ _ _ _ _ _ _ _ _ _ _ _ _ _ _ _ _ _ _ _ _ _ _ HTG.out.at_ HBG.out HBN.out (turnEnts_length _ _) hne HLOG.out HWI.out HTU.out ?_
        intro v56 v57 v58 v59 v60 v61 v62 v63 v64 v65 v66 v67 v68 v69 v70 v71 v72 v73 v74 v75 wx q10 ht10
        have HT10 := Lib.hid (HTG.out.trans ht10)
        clear ht10
        go_wp2_with fail
        go_meet
        exact ⟨q10, HT10⟩
      case rest =>
        obtain ⟨q'', HT11⟩ := hcut
        obtain ⟨wz, rfl⟩ : ∃ wz : World, wz = wc := ⟨_, rfl⟩
        have HFIN : Hid (ErrOut w g q rr (.returned (.int .i64 0)) wz) := Lib.hid (by
          rw [HRES.out, HHB.out]
          refine ⟨rfl, q'', ?_⟩
          have h1 := HT11.out
          rw [HX3.out, ← HHW.out] at h1
          exact h1)
        clear HT11
        go_wp2_with fail
        go_ret
        exact HFIN.out

theorem destroy_said (w : World) (g : Nat) (q : Lies) (x : Acc) (id : Int) (h : StoreAt w g q x) (hf : Fit x) :
    Calls Tryz.prog 21 #[.pointer (some ⟨g, 0, none⟩), .int .i64 id] w (ErrOut w g q (destroyP x id)) := by
  by_cases h0 : id ∈ idsMl x.mails
  case neg => exact dest_none w g q x id h hf h0
  have h0' : id ∈ idsMl (q.ms.map (·.p)) := by rw [h.same]; exact h0
  obtain ⟨i, hi, hpl, hmo, _, _, hfi⟩ := mail_at h0'
  rw [h.same] at hmo hfi
  by_cases h3 : x.cfg.maxMod ≤ x.clock
  · exact dest_ends w g q x id h hf i hi hpl hfi h3
  · exact dest_ok w g q x id h hf i hi hpl hfi hmo h3

end Go.Proofs.YtgkfknbhkonfdaaGreatDoor
