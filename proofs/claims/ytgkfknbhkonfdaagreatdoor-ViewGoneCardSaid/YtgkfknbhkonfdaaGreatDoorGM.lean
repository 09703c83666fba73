/-
  The walks of an email's copy, and of the store's Mails.
  The library's Delete of one element out of a slice of the account's mailboxes, of its emails.
-/
import Derived.Test.YtgkfknbhkonfdaaGreatDoorGE
import Derived.Test.YtgkfknbhkonfdaaGreatDoorGD
import Derived.Deep.QuietTactic
import Derived.Deep.RegionLaw
import Derived.Deep.DrawnRows
namespace Go.Proofs.YtgkfknbhkonfdaaGreatDoor
open Go.Shelf Go.RowKit
attribute [local go_sem ↓] Go.wp_at_zero Go.wp_at_succ

theorem Try.infoMail2 : (Tryz.prog.info? 90).map (fun i => (i.zero, i.size, i.bytes)) = some (some (.agg #[.int .i64 0, .int .i64 0, .string ⟨#[]⟩, .int .i64 0, .slice none 0 0, .slice none 0 0, .int .i64 0, .int .i64 0]), 8, 104) := by kernel_rfl

set_option maxRecDepth 100000 in
set_option maxHeartbeats 2000000 in
theorem copied_any (w : World) (a0 a1 a3 a6 a7 : Int) (s2 : ByteArray) (vk vm : Value) (nk nm : Nat) (xk xm : List Value) (hk : RdS w [] 1 vk nk xk) (hm : RdS w [] 2 vm nm xm) (hk1 : ∀ u ∈ xk, u.oneCell' = true) (hm1 : ∀ u ∈ xm, u.oneCell' = true) (hnk : nk ≤ 1099511627776) (hnm : nm ≤ 1099511627776) :
    Calls Tryz.prog 118 #[.agg #[.int .i64 a0, .int .i64 a1, .string s2, .int .i64 a3, vk, vm, .int .i64 a6, .int .i64 a7]] w fun e w' => ∃ vk' hk' vm' hm', e = .returned (.agg #[.int .i64 a0, .int .i64 a1, .string s2, .int .i64 a3, vk', vm', .int .i64 a6, .int .i64 a7]) ∧ Sl w' 9 1 vk' hk' nk xk ∧ Sl w' 138 2 vm' hm' nm xm ∧ (∀ b, hk' = some b → w.heap.size ≤ b) ∧ (∀ b, hm' = some b → w.heap.size ≤ b) ∧ Below w.heap.size w w' := by
  have hs := fun W (hb : Below w.heap.size w W) => cloneS_any W vk nk xk (hk.keep hb.size (fun b h _ => hb.block b h) (fun _ _ h => h)) hk1 (by omega)
  have hmm := fun W (hb : Below w.heap.size w W) => cloneMem_any W vm nm xm (hm.keep hb.size (fun b h _ => hb.block b h) (fun _ _ h => h)) hm1 hnm
  have HS := Lib.hid hs
  have HM := Lib.hid hmm
  clear hs hmm hk hm
  go_enter Tryz.func118, Tryz.ntmps118
  go_wp2
  obtain ⟨w1, hw1⟩ : ∃ w1 : World, w1 = (w.alloc (.cells #[.int .i64 a0, .int .i64 a1, .string s2, .int .i64 a3, vk, vm, .int .i64 a6, .int .i64 a7] 90)).alloc (.cells #[.int .i64 0, .int .i64 0, .string ⟨#[]⟩, .int .i64 0, .slice none 0 0, .slice none 0 0, .int .i64 0, .int .i64 0] 90) := ⟨_, rfl⟩
  rw [← hw1]
  have hB1 : Blk w1 w.heap.size 90 #[.int .i64 a0, .int .i64 a1, .string s2, .int .i64 a3, vk, vm, .int .i64 a6, .int .i64 a7] := by
    rw [hw1]
    exact (Blk.new w _ _).below (below_alloc1 _ _) (by simp)
  have hB2 : Blk w1 (w.heap.size + 1) 90 #[.int .i64 0, .int .i64 0, .string ⟨#[]⟩, .int .i64 0, .slice none 0 0, .slice none 0 0, .int .i64 0, .int .i64 0] := by
    rw [hw1]
    have h1 := Blk.new (w.alloc (.cells #[.int .i64 a0, .int .i64 a1, .string s2, .int .i64 a3, vk, vm, .int .i64 a6, .int .i64 a7] 90)) 90 #[.int .i64 0, .int .i64 0, .string ⟨#[]⟩, .int .i64 0, .slice none 0 0, .slice none 0 0, .int .i64 0, .int .i64 0]
    rw [World.size_alloc] at h1
    exact h1
  have hb1 : Below w.heap.size w w1 := by
    rw [hw1]
    exact below_then (below_alloc1 _ _) (below_alloc1 _ _)
  have k4 : w1.cell? ⟨w.heap.size, 4, none⟩ = some vk := hB1.cell 4
  have k5 : w1.cell? ⟨w.heap.size, 5, none⟩ = some vm := hB1.cell 5
  have B1 := Lib.hid hB1
  have B2 := Lib.hid hB2
  have L1 := Lib.hid hb1
  clear hw1 hB1 hB2 hb1
  go_region_law (first
    | (refine step_call (by rfl) (by rfl) (enters_of Tryz.func122 (by kernel_rfl) rfl) (by first | (simp [Act.eval]; done) | simp [Act.eval, Act.put]) (HS.out _ (below_then L1.out (below_drew1 _))) ?_; rintro e w2 ⟨v2, h2, rfl, hs2, hb2, ho2⟩; obtain ⟨A2, c2, rfl, _, _⟩ := hs2.form; refine ⟨_, rfl, ?_⟩; have L2 := Lib.hid (below_drop hb2); have m5 : w2.cell? ⟨w.heap.size, 5, none⟩ = some vm := (B1.out.below (below_drop hb2) B1.out.lt).cell 5; have S2 := Lib.hid hs2; have O2 : Hid (∀ b, h2 = some b → w1.heap.size ≤ b) := Lib.hid (fun b hb => ho2 b hb); clear hs2 hb2 ho2)
    | (refine step_call (by rfl) (by rfl) (enters_of Tryz.func105 (by kernel_rfl) rfl) (by first | (simp [Act.eval]; done) | simp [Act.eval, Act.put]) (HM.out _ (below_then L1.out L2.out)) ?_; rintro e w3 ⟨v3, h3, rfl, hs3, hb3, ho3⟩; obtain ⟨A3, c3, rfl, _, _⟩ := hs3.form; refine ⟨_, rfl, ?_⟩; have L3 := Lib.hid hb3; have hn1 := (B1.out.below L2.out B1.out.lt).below hb3 (Nat.lt_of_lt_of_le B1.out.lt L2.out.size); have hn2 := (B2.out.below L2.out B2.out.lt).below hb3 (Nat.lt_of_lt_of_le B2.out.lt L2.out.size); have n0 : w3.cell? ⟨w.heap.size, 0, none⟩ = some (.int .i64 a0) := hn1.cell 0; have n1 : w3.cell? ⟨w.heap.size, 1, none⟩ = some (.int .i64 a1) := hn1.cell 1; have n2 : w3.cell? ⟨w.heap.size, 2, none⟩ = some (.string s2) := hn1.cell 2; have n3 : w3.cell? ⟨w.heap.size, 3, none⟩ = some (.int .i64 a3) := hn1.cell 3; have n4 : w3.cell? ⟨w.heap.size, 4, none⟩ = some (vk) := hn1.cell 4; have nf4 : w3.frozen? ⟨w.heap.size, 4, none⟩ = false := hn1.frozen 4; have n5 : w3.cell? ⟨w.heap.size, 5, none⟩ = some (vm) := hn1.cell 5; have nf5 : w3.frozen? ⟨w.heap.size, 5, none⟩ = false := hn1.frozen 5; have n6 : w3.cell? ⟨w.heap.size, 6, none⟩ = some (.int .i64 a6) := hn1.cell 6; have n7 : w3.cell? ⟨w.heap.size, 7, none⟩ = some (.int .i64 a7) := hn1.cell 7; have r0 : w3.cell? ⟨w.heap.size + 1, 0, none⟩ = some (.int .i64 0) := hn2.cell 0; have rf0 : w3.frozen? ⟨w.heap.size + 1, 0, none⟩ = false := hn2.frozen 0; have r1 : w3.cell? ⟨w.heap.size + 1, 1, none⟩ = some (.int .i64 0) := hn2.cell 1; have rf1 : w3.frozen? ⟨w.heap.size + 1, 1, none⟩ = false := hn2.frozen 1; have r2 : w3.cell? ⟨w.heap.size + 1, 2, none⟩ = some (.string ⟨#[]⟩) := hn2.cell 2; have rf2 : w3.frozen? ⟨w.heap.size + 1, 2, none⟩ = false := hn2.frozen 2; have r3 : w3.cell? ⟨w.heap.size + 1, 3, none⟩ = some (.int .i64 0) := hn2.cell 3; have rf3 : w3.frozen? ⟨w.heap.size + 1, 3, none⟩ = false := hn2.frozen 3; have r4 : w3.cell? ⟨w.heap.size + 1, 4, none⟩ = some (.slice none 0 0) := hn2.cell 4; have rf4 : w3.frozen? ⟨w.heap.size + 1, 4, none⟩ = false := hn2.frozen 4; have r5 : w3.cell? ⟨w.heap.size + 1, 5, none⟩ = some (.slice none 0 0) := hn2.cell 5; have rf5 : w3.frozen? ⟨w.heap.size + 1, 5, none⟩ = false := hn2.frozen 5; have r6 : w3.cell? ⟨w.heap.size + 1, 6, none⟩ = some (.int .i64 0) := hn2.cell 6; have rf6 : w3.frozen? ⟨w.heap.size + 1, 6, none⟩ = false := hn2.frozen 6; have r7 : w3.cell? ⟨w.heap.size + 1, 7, none⟩ = some (.int .i64 0) := hn2.cell 7; have rf7 : w3.frozen? ⟨w.heap.size + 1, 7, none⟩ = false := hn2.frozen 7; have N1 := Lib.hid hn1; have N2 := Lib.hid hn2; have S3 := Lib.hid hs3; have O3 : Hid (∀ b, h3 = some b → w1.heap.size ≤ b) := Lib.hid (fun b hb => Nat.le_trans (Below.size L2.out) (ho3 b hb)); clear hs3 hb3 ho3 hn1 hn2)
    | fail)
  all_goals
    go_wp2
    have hc : Chg [w.heap.size, w.heap.size + 1] w3 _ := ((((((((((Chg.refl [w.heap.size, w.heap.size + 1] w3).set (p := ⟨w.heap.size, 4, none⟩) (.inl (by simp)) (.slice A2 nk c2)).set (p := ⟨w.heap.size, 5, none⟩) (.inl (by simp)) (.slice A3 nm c3)).set (p := ⟨w.heap.size + 1, 0, none⟩) (.inl (by simp)) (.int .i64 a0)).set (p := ⟨w.heap.size + 1, 1, none⟩) (.inl (by simp)) (.int .i64 a1)).set (p := ⟨w.heap.size + 1, 2, none⟩) (.inl (by simp)) (.string s2)).set (p := ⟨w.heap.size + 1, 3, none⟩) (.inl (by simp)) (.int .i64 a3)).set (p := ⟨w.heap.size + 1, 4, none⟩) (.inl (by simp)) (.slice A2 nk c2)).set (p := ⟨w.heap.size + 1, 5, none⟩) (.inl (by simp)) (.slice A3 nm c3)).set (p := ⟨w.heap.size + 1, 6, none⟩) (.inl (by simp)) (.int .i64 a6)).set (p := ⟨w.heap.size + 1, 7, none⟩) (.inl (by simp)) (.int .i64 a7)
    have hl := B2.out.lt
    have hz := L1.out.size
    refine bodyPost_ret (v := .agg #[.int .i64 a0, .int .i64 a1, .string s2, .int .i64 a3, .slice A2 nk c2, .slice A3 nm c3, .int .i64 a6, .int .i64 a7]) ?_ rfl ⟨_, h2, _, h3, rfl, (S2.out.chg (Chg.of_below L3.out []) (by simp)).chg hc ?_, S3.out.chg hc ?_, fun b hb => Nat.le_trans hz (O2.out b hb), fun b hb => Nat.le_trans hz (O3.out b hb), ?_⟩
    · simp [results, Tryz.results118, go_sem, r0, r1, r2, r3, r4, r5, r6, r7]
    · intro b hb hm
      have := O2.out b hb
      simp at hm
      omega
    · intro b hb hm
      have := O3.out b hb
      simp at hm
      omega
    · have h3 := below_then L1.out (below_then L2.out L3.out)
      refine h3.trans (hc.below h3.size (fun k hk => ?_))
      simp at hk
      omega

/-- An email's parts in blocks of the call's own. -/
def PartSl (w : World) (B : Nat) (m : MailM) : Prop := ∃ hk hm, Sl w 9 1 m.kv hk m.p.keys.length (m.p.keys.map encStr) ∧ Sl w 138 2 m.mv hm m.p.members.length (flatG encMem m.p.members) ∧ (∀ b, hk = some b → B ≤ b) ∧ ∀ b, hm = some b → B ≤ b
/-- A slice of emails that reads, in no block of S. -/
def MailsAt (w : World) (S : List Nat) (v : Value) (l : List MailP) : Prop := ∃ ms : List MailM, ms.map (·.p) = l ∧ RdS w S 8 v ms.length (flatG encM ms) ∧ ∀ m ∈ ms, PartAt w S m
theorem MailsAt.keep {w w' : World} {S T : List Nat} {v : Value} {l : List MailP} (h : MailsAt w S v l) (hsz : w.heap.size ≤ w'.heap.size) (hk : ∀ b, b < w.heap.size → b ∉ S → w'.heap[b]? = w.heap[b]?) (hT : ∀ b, b < w.heap.size → b ∉ S → b ∉ T) : MailsAt w' T v l := by
  obtain ⟨ms, h1, h2, h3⟩ := h
  exact ⟨ms, h1, h2.keep hsz hk hT, fun m hm => (h3 m hm).keep hsz hk hT⟩

structure MailsRel (w wr : World) (ms : List MailM) (k : Nat) (o : Value) : Prop where
  below : Below w.heap.size w wr
  out : ∃ mc h, Sl wr 90 8 o h k (flatG encM mc) ∧ mc.map (·.p) = (ms.map (·.p)).take k ∧ (∀ b, h = some b → w.heap.size ≤ b) ∧ ∀ m ∈ mc, PartSl wr w.heap.size m
theorem PartSl.below {w wr w' : World} {m : MailM} (h : PartSl wr w.heap.size m) (hb : Below wr.heap.size wr w') : PartSl w' w.heap.size m := by
  obtain ⟨a, b, h1, h2, h3, h4⟩ := h
  exact ⟨a, b, h1.keep (fun b hb2 => hb.block b (h1.lt b hb2)), h2.keep (fun b hb2 => hb.block b (h2.lt b hb2)), h3, h4⟩
theorem MailsRel.next {w wr W W2 : World} {ms : List MailM} {k : Nat} {o o2 : Value} {h1 h2 : Option Nat} {mc : List MailM} {m : MailM} (hR : Below w.heap.size w wr) (hk : k < ms.length) (hmc : mc.map (·.p) = (ms.map (·.p)).take k) (hpp : ∀ m ∈ mc, PartSl wr w.heap.size m)
    (hb : Below wr.heap.size wr W) (hm : m.p = ms[k].p) (hp : PartSl W w.heap.size m) (hs1 : Sl W 90 8 o h1 k (flatG encM mc)) (hf1 : ∀ b, h1 = some b → w.heap.size ≤ b)
    (hs2 : Sl W2 90 8 o2 h2 (k + 1) (flatG encM mc ++ encM m)) (hc2 : Chg h1.toList W W2) (ho2 : h2 = h1 ∨ ∃ g, h2 = some g ∧ W.heap.size ≤ g) : MailsRel w W2 ms (k + 1) o2 := by
  have hbW := below_then hR hb
  refine ⟨hbW.trans (hc2.below hbW.size (fun k hk => hf1 k (by simpa using hk))), mc ++ [m], h2, ?_, ?_, fun b hb => ?_, fun y hy => ?_⟩
  · rw [flatG_snoc]
    exact hs2
  · rw [List.map_append, hmc, List.take_succ_eq_append_getElem (by simpa using hk)]
    simp [hm]
  · rcases ho2 with h3 | ⟨g2, h3, h4⟩
    · exact hf1 b (by rw [← h3]; exact hb)
    · rw [h3] at hb
      injection hb with hb
      have := hbW.size
      omega
  · have hy2 : PartSl W w.heap.size y := by
      rcases List.mem_append.1 hy with h5 | h5
      · exact (hpp y h5).below hb
      · rw [List.mem_singleton] at h5
        rw [h5]
        exact hp
    obtain ⟨a, b, g1, g2, g3, g4⟩ := hy2
    exact ⟨a, b, g1.chg hc2 (fun b hb hm => g1.ne_sl hs1 (by decide) b hb (by simpa using hm)), g2.chg hc2 (fun b hb hm => g2.ne_sl hs1 (by decide) b hb (by simpa using hm)), g3, g4⟩
theorem MailsRel.done {w wr : World} {ms : List MailM} {o : Value} {S : List Nat} {l : List MailP} (h : MailsRel w wr ms ms.length o) (hS : ∀ b ∈ S, b < w.heap.size) (hl : ms.map (·.p) = l) : MailsAt wr S o l := by
  obtain ⟨mc, h0, h1, h2, h3, h4⟩ := h.out
  rw [List.take_of_length_le (by simp)] at h2
  have hlen : mc.length = ms.length := by simpa using congrArg List.length h2
  have hno : ∀ h : Option Nat, (∀ b, h = some b → w.heap.size ≤ b) → ∀ b, h = some b → b ∉ S := fun h hf b hb hm => by
    have := hS b hm
    have := hf b hb
    omega
  refine ⟨mc, h2.trans hl, ?_, fun m hm => ?_⟩
  · rw [hlen]
    exact h1.reads _ (hno _ h3)
  · obtain ⟨a, b, g1, g2, g3, g4⟩ := h4 m hm
    exact ⟨g1.reads _ (hno _ g3), g2.reads _ (hno _ g4), g1.ty, g2.ty⟩

/-- How many keywords and members an email may have. -/
def SmallM (x : Acc) : Prop := x.mails.length ≤ 1099511627776 ∧ ∀ m ∈ x.mails, m.keys.length ≤ 1099511627776 ∧ m.members.length ≤ 1099511627776

set_option maxRecDepth 100000 in
set_option maxHeartbeats 2000000 in
theorem mails_anyS (w : World) (g : Nat) (q : Lies) (x : Acc) (h : StoreAt w g q x) (hn : SmallM x) (S : List Nat) (hS : ∀ b ∈ S, b < w.heap.size) :
    Calls Tryz.prog 59 #[.pointer (some ⟨g, 0, none⟩)] w fun e w' => ∃ A c, e = .returned (.slice A x.mails.length c) ∧ MailsAt w' S (.slice A x.mails.length c) x.mails ∧ Below w.heap.size w w' := by
  have HSX := Lib.hid hS
  clear hS
  obtain ⟨i0, hi, hz0, hz1, hz2⟩ := info_parts Try.infoMail2
  have hlen := h.msLen
  have c11 := h.cell11
  obtain ⟨Am, cm, hvm, _, _⟩ := h.mails.form
  rw [hvm] at c11
  obtain ⟨n, hnn⟩ : ∃ n, x.mails.length = n := ⟨_, rfl⟩
  rw [hnn] at c11 hlen ⊢
  have hn0 := hn.1
  rw [hnn] at hn0
  have hHR : Hid (MailsRel w w q.ms 0 (.slice none 0 0)) := Lib.hid ⟨Below.refl _ _, [], none, Sl.nil _ _ _, by simp, fun b hb => (by cases hb), fun m hm => (by cases hm)⟩
  have HW := Lib.hid h
  have HN := Lib.hid hn
  have HNN := Lib.hid hnn
  have HVM := Lib.hid hvm
  clear h hn hnn hvm
  go_enter Tryz.func59, Tryz.ntmps59
  go_wp2
  go_loopw [3, 13] (fun o i wr => ∃ k : Nat, k ≤ n ∧ i = .int .i64 k ∧ Hid (MailsRel w wr q.ms k o)) (fun _ i _ => n - (intOf i).toNat)
  case atStart => exact ⟨0, Nat.zero_le _, rfl, hHR⟩
  case round =>
    obtain ⟨k, hk, rfl, HU⟩ := hrel
    by_cases hlt : k < n
    · have hkm : k < q.ms.length := by omega
      obtain ⟨b, off, cap, hv, _, _, _, hblt, hat⟩ := HW.out.mailAt k (by rw [HNN.out]; exact hlt) hkm
      have hv2 := hv.symm.trans HVM.out
      injection hv2 with hv3 _ hv4
      subst hv3 hv4
      have hat2 : ∀ j, j < 8 → wr.cell? ⟨b, off + k * 8 + j, none⟩ = (encM q.ms[k])[j]? := fun j hj => (HU.out.below.cell hblt).trans (hat j hj).1
      obtain ⟨m0, hm0⟩ : ∃ m0, q.ms[k] = m0 := ⟨_, rfl⟩
      have hp0 := (HW.out.parts q.ms[k] (List.getElem_mem hkm))
      have hsm := HN.out.2 q.ms[k].p (by rw [← HW.out.same]; exact List.mem_map_of_mem (List.getElem_mem hkm))
      rw [hm0] at hat2 hp0 hsm
      have e0 : wr.cell? ⟨b, off + k * 8, none⟩ = some (.int .i64 m0.p.id) := hat2 0 (by omega)
      have e1 : wr.cell? ⟨b, off + k * 8 + 1, none⟩ = some (.int .i64 m0.p.thread) := hat2 1 (by omega)
      have e2 : wr.cell? ⟨b, off + k * 8 + 2, none⟩ = some (.string ⟨m0.p.text.toArray⟩) := hat2 2 (by omega)
      have e3 : wr.cell? ⟨b, off + k * 8 + 3, none⟩ = some (.int .i64 m0.p.at_) := hat2 3 (by omega)
      have e4 : wr.cell? ⟨b, off + k * 8 + 4, none⟩ = some m0.kv := hat2 4 (by omega)
      have e5 : wr.cell? ⟨b, off + k * 8 + 5, none⟩ = some m0.mv := hat2 5 (by omega)
      have e6 : wr.cell? ⟨b, off + k * 8 + 6, none⟩ = some (.int .i64 m0.p.mod) := hat2 6 (by omega)
      have e7 : wr.cell? ⟨b, off + k * 8 + 7, none⟩ = some (.int .i64 m0.p.born) := hat2 7 (by omega)
      obtain ⟨Ak, ck, hkv, _, _⟩ := hp0.keys.form
      obtain ⟨Av, cv, hmv, _, _⟩ := hp0.mem.form
      rw [hkv] at e4
      rw [hmv] at e5
      have hcp : ∀ W, Below wr.heap.size wr W → _ := fun W (hb : Below wr.heap.size wr W) => copied_any W m0.p.id m0.p.thread m0.p.at_ m0.p.mod m0.p.born ⟨m0.p.text.toArray⟩ m0.kv m0.mv _ _ _ _ (hp0.keys.keep (T := []) (below_then HU.out.below hb).size (fun b h _ => (below_then HU.out.below hb).block b h) (fun _ _ _ h => by cases h)) (hp0.mem.keep (T := []) (below_then HU.out.below hb).size (fun b h _ => (below_then HU.out.below hb).block b h) (fun _ _ _ h => by cases h)) (fun u hu => by obtain ⟨s, _, rfl⟩ := List.mem_map.1 hu; rfl) (flatG_one encMem_one _) hsm.1 hsm.2
      rw [hkv, hmv] at hcp
      obtain ⟨mc, h0, hs0, hmc, hf0, hpp⟩ := HU.out.out
      obtain ⟨A0, c0, rfl, _, _⟩ := hs0.form
      have HCP := Lib.hid hcp
      have HS0 := Lib.hid hs0
      have HMC := Lib.hid hmc
      have HF0 := Lib.hid hf0
      have HPP := Lib.hid hpp
      have HM0 := Lib.hid hm0
      clear hcp hs0 hmc hf0 hpp hm0 hat hat2 hp0 hsm hkv hmv c11
      go_wp2_with (first
        | (go_at_call 118; refine (HCP.out _ (below_alloc1 _ _)).mono ?_; rintro e w4 ⟨vk4, hk4, vm4, hm4, rfl, sk4, sm4, fk4, fm4, hb4⟩; obtain ⟨Ak4, ck4, rfl, _, _⟩ := sk4.form; obtain ⟨Am4, cm4, rfl, _, _⟩ := sm4.form; have hb5 := below_then (below_alloc1 _ _) hb4; have HB5 := Lib.hid hb5; have HO := Lib.hid (HS0.out.keep (fun b hb => hb5.block b (HS0.out.lt b hb))); have HPS : Hid (PartSl w4 w.heap.size ⟨m0.p, .slice Ak4 m0.p.keys.length ck4, .slice Am4 m0.p.members.length cm4⟩) := Lib.hid ⟨hk4, hm4, sk4, sm4, fun b hb => Nat.le_trans (Nat.le_trans HU.out.below.size (by rw [World.size_alloc]; omega)) (fk4 b hb), fun b hb => Nat.le_trans (Nat.le_trans HU.out.below.size (by rw [World.size_alloc]; omega)) (fm4 b hb)⟩; clear sk4 sm4 fk4 fm4 hb4 hb5)
        | (at_builtin; refine wpList_append_sl rfl _ _ 121 rfl Tryz.underlying121 hi hz0 hz1 hz2 rfl (by decide) HO.out rfl 1 1 rfl rfl ?_ ?_ ?_ ?_)
        | fail)
      · simp [Value.oneCell']
      · unfold maxLen
        omega
      · omega
      · intro v2 h2 w5 hs5 hc5 ho5
        have HNX : Hid (MailsRel w w5 q.ms (k + 1) v2) := Lib.hid (MailsRel.next (m := ⟨m0.p, .slice Ak4 m0.p.keys.length ck4, .slice Am4 m0.p.members.length cm4⟩) HU.out.below hkm HMC.out HPP.out HB5.out (by rw [HM0.out]) HPS.out HO.out HF0.out hs5 hc5 ho5)
        clear hs5 hc5 ho5
        go_wp2
        refine ⟨?_, by simp [intOf]; omega⟩
        first | exact ⟨k + 1, by omega, by go_num, HNX⟩ | ((repeat apply Exists.intro); exact ⟨⟨k + 1, by omega, by go_num, HNX⟩, rfl⟩)
    · have hkn : k = n := by omega
      subst hkn
      have hl : q.ms.length = k := hlen
      obtain ⟨mc, h0, hs0, hmc, hf0, hpp⟩ := HU.out.out
      obtain ⟨A0, c0, rfl, _, _⟩ := hs0.form
      have HF : Hid (MailsAt wr S (.slice A0 k c0) x.mails) := Lib.hid (MailsRel.done (ms := q.ms) (by rw [hl]; exact HU.out) HSX.out HW.out.same)
      clear hs0 hmc hf0 hpp
      go_wp2
      go_ret
      exact ⟨_, _, rfl, HF.out, HU.out.below⟩

theorem mails_any (w : World) (g : Nat) (q : Lies) (x : Acc) (h : StoreAt w g q x) (hn : SmallM x) :
    Calls Tryz.prog 59 #[.pointer (some ⟨g, 0, none⟩)] w fun e w' => ∃ A c, e = .returned (.slice A x.mails.length c) ∧ MailsAt w' (q.own g) (.slice A x.mails.length c) x.mails ∧ Below w.heap.size w w' :=
  mails_anyS w g q x h hn (q.own g) h.lt

end Go.Proofs.YtgkfknbhkonfdaaGreatDoor

namespace Go.Proofs.YtgkfknbhkonfdaaGreatDoor
open Go.Shelf Go.RowKit
attribute [local go_sem ↓] Go.wp_at_zero Go.wp_at_succ

/-- The built-in clear of a slice of one element of several cells. -/
theorem run_clear_one {P : Program} (w : World) (t e ty : TypeId) (z : Value) (zs : List Value) (ht : P.underlying t = some (.slice e)) (hv : ∀ w, (zeroValue e).run P w = .ok z w) (hz : z.cells = zs.toArray) (h1 : ∀ u ∈ zs, u.oneCell' = true) (b o c : Nat)
    (hc : ∀ j, j < zs.length → (w.cell? ⟨b, o + j, none⟩).isSome = true) (hf : ∀ j, j < zs.length → w.frozen? ⟨b, o + j, none⟩ = false) :
    (Builtin.clear_ #[t] ty #[.slice (some ⟨b, o, none⟩) 1 c]).run P w = .ok (.tuple #[]) (w.setCells b o zs) := by
  have hzc : (Builtin.zeroCells z.cells 1).toList = zs := by
    rw [hz]
    simp only [Builtin.zeroCells, List.size_toArray, Nat.one_mul]
    apply List.ext_getElem
    · simp
    · intro i h1 h2
      simp [Nat.mod_eq_of_lt h2, h2]
  have hst := run_storeCells_cells (P := P) b o zs 0 w (by simpa using hc) (by simpa using hf) h1
  simp only [Nat.add_zero] at hst
  simp [Builtin.clear_, run_underlying ht, hv, hzc, hst]

set_option maxRecDepth 100000 in
set_option maxHeartbeats 4000000 in
theorem delM_any (w : World) (v : Value) (h : Option Nat) (n : Nat) (xs : List Value) (hs : Sl w 90 8 v h n xs) (h1 : ∀ u ∈ xs, u.oneCell' = true) (hn : n ≤ 1099511627776) (i : Nat) (hi : i < n) :
    Calls Tryz.prog 72 #[v, .int .i64 i, .int .i64 ((i : Int) + 1)] w fun e w' => ∃ v', e = .returned v' ∧ Sl w' 90 8 v' h (n - 1) (xs.take (i * 8) ++ xs.drop ((i + 1) * 8)) ∧ Chg h.toList w w' := by
  obtain ⟨i0, hi0, hz0, hz1, hz2⟩ := info_parts Try.infoMail2
  have hxl := hs.1
  rcases hs.2 with ⟨_, _, h0⟩ | ⟨b, off, cap, cur, rfl, rfl, hB, hnc, hcm, hcs, htake⟩
  · omega
  have hcell : ∀ j, j < n * 8 → w.cell? ⟨b, off + j, none⟩ = xs[j]? := fun j hj => by
    rw [hB.cell, ← htake, List.getElem?_take, if_pos hj, List.getElem?_drop, Array.getElem?_toList]
  obtain ⟨news, hnews⟩ : ∃ news, news = xs.drop ((i + 1) * 8) := ⟨_, rfl⟩
  have hlen : news.length = (n - (i + 1)) * 8 := by
    rw [hnews, List.length_drop, hxl]
    omega
  have hw1 : IntKind.i64.wrap ((i : Int) + 1) = (i : Int) + 1 := IntWalk.i64_in _ (by omega)
  have q1 : (0 : Int) ≤ (i : Int) := by omega
  have q2 : (i : Int) ≤ (i : Int) + 1 := by omega
  have q3 : (i : Int) + 1 ≤ (n : Int) := by omega
  have q6 : (0 : Int) ≤ (i : Int) + 1 := by omega
  have q4 : (n : Int) ≤ (cap : Int) := by omega
  have q5 : ((i : Int) == (i : Int) + 1) = false := by simpa using (show ¬ (i : Int) = (i : Int) + 1 by omega)
  have hic : i ≤ cap := by omega
  have hjc : i + 1 ≤ cap := by omega
  clear hs
  obtain ⟨A, hA, hsrc⟩ : ∃ A : Addr, (if cap = i + 1 then (some (⟨b, off, none⟩ : Addr)) else some ⟨b, off + (i + 1) * 8, none⟩) = some A ∧ Hid (∀ t u, news[t]? = some u → w.drew.cell? (A.add t) = some u) := by
    by_cases h : cap = i + 1
    · refine ⟨⟨b, off, none⟩, by simp [h], Lib.hid (fun t u hu => ?_)⟩
      have h0 : news.length = 0 := by
        rw [hlen, show n - (i + 1) = 0 by omega, Nat.zero_mul]
      rw [List.length_eq_zero_iff.1 h0] at hu
      simp at hu
    · refine ⟨⟨b, off + (i + 1) * 8, none⟩, by simp [h], Lib.hid (fun t u hu => ?_)⟩
      have ht : t < (n - (i + 1)) * 8 := by
        have := (List.getElem?_eq_some_iff.1 hu).1
        rwa [hlen] at this
      rw [hnews, List.getElem?_drop] at hu
      rw [Addr.add_lit, show off + (i + 1) * 8 + t = off + ((i + 1) * 8 + t) by omega]
      exact (hcell ((i + 1) * 8 + t) (by omega)).trans hu
  have s1 := Lib.hid hlen
  have s2 : Hid (∀ u ∈ news, u.oneCell' = true) := Lib.hid (fun u hu => by
    rw [hnews] at hu
    exact h1 u (List.mem_of_mem_drop hu))
  have s3 : Hid (∀ t, t < news.length → (w.drew.cell? ⟨b, off + i * 8 + t, none⟩).isSome = true ∧ w.drew.frozen? ⟨b, off + i * 8 + t, none⟩ = false) := Lib.hid (fun t ht => by
    rw [hlen] at ht
    refine ⟨?_, hB.frozen _⟩
    show (w.cell? _).isSome = true
    rw [Nat.add_assoc, hcell (i * 8 + t) (by omega), List.getElem?_eq_getElem (by omega)]
    rfl)
  obtain ⟨W1, hW1⟩ : ∃ W1, W1 = w.drew.setCells b (off + i * 8) news := ⟨_, rfl⟩
  have hB1 : Blk W1 b 90 (cur.toList.take (off + i * 8) ++ news ++ cur.toList.drop (off + i * 8 + news.length)).toArray := by
    rw [hW1]
    exact heap_setCells b 90 news (off + i * 8) w.drew cur (hB.heap (w' := w.drew) rfl) (by omega)
  obtain ⟨u1, u2, u3, u4⟩ := setCells_same b news (off + i * 8) w.drew
  rw [← hW1] at u1 u2 u3 u4
  have hC1 : Chg [b] w W1 := ⟨u1, u2, u3, Nat.le_of_eq u4.symm, fun j _ hj => by
    rw [hW1]
    exact setCells_far b news _ w.drew j (by simpa using hj)⟩
  have hs1 : (cur.toList.take (off + i * 8) ++ news ++ cur.toList.drop (off + i * 8 + news.length)).length = cur.size := by
    simp only [List.length_append, List.length_take, List.length_drop, Array.length_toList]
    omega
  obtain ⟨cu1, hcu1⟩ : ∃ cu1, cu1 = cur.toList.take (off + i * 8) ++ news ++ cur.toList.drop (off + i * 8 + news.length) := ⟨_, rfl⟩
  rw [← hcu1] at hB1 hs1
  have e1 : i + (n - (i + 1)) = n - 1 := by omega
  have hcl : ∀ ty, (Builtin.clear_ #[121] ty #[.slice (some ⟨b, off + (i + (n - (i + 1))) * 8, none⟩) (n - (i + (n - (i + 1)))) (cap - (i + (n - (i + 1))))]).run Tryz.prog W1 = .ok (.tuple #[]) (W1.setCells b (off + (n - 1) * 8) [.int .i64 0, .int .i64 0, .string ⟨#[]⟩, .int .i64 0, .slice none 0 0, .slice none 0 0, .int .i64 0, .int .i64 0]) := fun ty => by
    rw [e1, show n - (n - 1) = 1 by omega]
    exact run_clear_one W1 _ 90 ty (.agg #[.int .i64 0, .int .i64 0, .string ⟨#[]⟩, .int .i64 0, .slice none 0 0, .slice none 0 0, .int .i64 0, .int .i64 0]) [.int .i64 0, .int .i64 0, .string ⟨#[]⟩, .int .i64 0, .slice none 0 0, .slice none 0 0, .int .i64 0, .int .i64 0] Tryz.underlying121 (fun W => by first | rfl | kernel_rfl) rfl (by simp [Value.oneCell']) b (off + (n - 1) * 8) _ (fun j hj => by
      have hj2 : j < 8 := hj
      rw [hB1.cell]
      rw [List.getElem?_toArray, List.getElem?_eq_getElem (by omega)]
      rfl) (fun j hj => hB1.frozen _)
  have hfin : Sl (W1.setCells b (off + (n - 1) * 8) [.int .i64 0, .int .i64 0, .string ⟨#[]⟩, .int .i64 0, .slice none 0 0, .slice none 0 0, .int .i64 0, .int .i64 0]) 90 8 (.slice (some ⟨b, off, none⟩) (i + (n - (i + 1))) cap) (some b) (n - 1) (xs.take (i * 8) ++ news) := by
    have hB2 := heap_setCells b 90 [.int .i64 0, .int .i64 0, .string ⟨#[]⟩, .int .i64 0, .slice none 0 0, .slice none 0 0, .int .i64 0, .int .i64 0] (off + (n - 1) * 8) W1 cu1.toArray hB1 (by simp; omega)
    rw [e1]
    refine ⟨by rw [List.length_append, List.length_take, hlen]; omega, .inr ⟨b, off, cap, _, rfl, rfl, hB2, by omega, hcm, ?_, ?_⟩⟩
    · simp only [List.size_toArray, List.length_append, List.length_take, List.length_drop, List.length_cons, List.length_nil, hs1]
      omega
    · have hl1 : (cu1.take (off + (n - 1) * 8)).length = off + (n - 1) * 8 := by
        rw [List.length_take, hs1]
        omega
      show (List.drop off (cu1.take (off + (n - 1) * 8) ++ [.int .i64 0, .int .i64 0, .string ⟨#[]⟩, .int .i64 0, .slice none 0 0, .slice none 0 0, .int .i64 0, .int .i64 0] ++ _)).take ((n - 1) * 8) = xs.take (i * 8) ++ news
      rw [List.append_assoc, List.drop_append_of_le_length (by omega), List.take_append_of_le_length (by rw [List.length_drop, hl1]; omega), List.drop_take, Nat.add_sub_cancel_left, List.take_take, Nat.min_self, hcu1]
      have hl0 : (cur.toList.take (off + i * 8)).length = off + i * 8 := by
        rw [List.length_take, Array.length_toList]
        omega
      rw [List.append_assoc, List.drop_append_of_le_length (by omega), List.drop_take, Nat.add_sub_cancel_left, ← List.append_assoc]
      rw [List.take_append_of_le_length (by rw [List.length_append, List.length_take, List.length_drop, Array.length_toList, hlen]; omega)]
      rw [← htake, List.take_take, Nat.min_eq_left (by omega)]
      exact List.take_of_length_le (by rw [List.length_append, List.length_take, List.length_drop, Array.length_toList, hlen]; omega)
  obtain ⟨y1, y2, y3, y4⟩ := setCells_same b [.int .i64 0, .int .i64 0, .string ⟨#[]⟩, .int .i64 0, .slice none 0 0, .slice none 0 0, .int .i64 0, .int .i64 0] (off + (n - 1) * 8) W1
  have hC2 : Chg [b] w (W1.setCells b (off + (n - 1) * 8) [.int .i64 0, .int .i64 0, .string ⟨#[]⟩, .int .i64 0, .slice none 0 0, .slice none 0 0, .int .i64 0, .int .i64 0]) := ⟨y1.trans u1, y2.trans u2, y3.trans u3, by rw [y4, u4]; exact Nat.le_refl _, fun j hj hjn => (setCells_far b _ _ W1 j (by simpa using hjn)).trans (hC1.block j hj hjn)⟩
  have HFIN := Lib.hid hfin
  have HC2 := Lib.hid hC2
  have HNEWS := Lib.hid hnews
  have HW1 := Lib.hid hW1
  clear hcell hnews hlen u1 u2 u3 u4 hB1 hC1 hs1 hcu1 hW1 y1 y2 y3 y4 hfin hC2 e1 htake
  go_enter Tryz.func72, Tryz.ntmps72
  go_wp2_with fail
  go_region_law (first
    | (refine step_append_room rfl (.tmp 22) (.tmp 25) 121 rfl 90 i0 8 Tryz.underlying121 hi0 hz1 b off i cap (by simp [Act.eval, Act.put]) A (n - (i + 1)) (cap - (i + 1)) news (by simp [Act.eval, Act.put]) s1.out hsrc.out s2.out (by omega) s3.out ?_; rw [← HW1.out])
    | fail)
  all_goals
    go_wp2
    go_ret
    exact ⟨_, rfl, by rw [← HNEWS.out]; exact HFIN.out, HC2.out⟩

set_option maxRecDepth 100000 in
set_option maxHeartbeats 4000000 in
theorem delB_any (w : World) (v : Value) (h : Option Nat) (n : Nat) (xs : List Value) (hs : Sl w 80 6 v h n xs) (h1 : ∀ u ∈ xs, u.oneCell' = true) (hn : n ≤ 1099511627776) (i : Nat) (hi : i < n) :
    Calls Tryz.prog 147 #[v, .int .i64 i, .int .i64 ((i : Int) + 1)] w fun e w' => ∃ v', e = .returned v' ∧ Sl w' 80 6 v' h (n - 1) (xs.take (i * 6) ++ xs.drop ((i + 1) * 6)) ∧ Chg h.toList w w' := by
  obtain ⟨i0, hi0, hz0, hz1, hz2⟩ := info_parts Try.infoBox
  have hxl := hs.1
  rcases hs.2 with ⟨_, _, h0⟩ | ⟨b, off, cap, cur, rfl, rfl, hB, hnc, hcm, hcs, htake⟩
  · omega
  have hcell : ∀ j, j < n * 6 → w.cell? ⟨b, off + j, none⟩ = xs[j]? := fun j hj => by
    rw [hB.cell, ← htake, List.getElem?_take, if_pos hj, List.getElem?_drop, Array.getElem?_toList]
  obtain ⟨news, hnews⟩ : ∃ news, news = xs.drop ((i + 1) * 6) := ⟨_, rfl⟩
  have hlen : news.length = (n - (i + 1)) * 6 := by
    rw [hnews, List.length_drop, hxl]
    omega
  have hw1 : IntKind.i64.wrap ((i : Int) + 1) = (i : Int) + 1 := IntWalk.i64_in _ (by omega)
  have q1 : (0 : Int) ≤ (i : Int) := by omega
  have q2 : (i : Int) ≤ (i : Int) + 1 := by omega
  have q3 : (i : Int) + 1 ≤ (n : Int) := by omega
  have q6 : (0 : Int) ≤ (i : Int) + 1 := by omega
  have q4 : (n : Int) ≤ (cap : Int) := by omega
  have q5 : ((i : Int) == (i : Int) + 1) = false := by simpa using (show ¬ (i : Int) = (i : Int) + 1 by omega)
  have hic : i ≤ cap := by omega
  have hjc : i + 1 ≤ cap := by omega
  clear hs
  obtain ⟨A, hA, hsrc⟩ : ∃ A : Addr, (if cap = i + 1 then (some (⟨b, off, none⟩ : Addr)) else some ⟨b, off + (i + 1) * 6, none⟩) = some A ∧ Hid (∀ t u, news[t]? = some u → w.drew.cell? (A.add t) = some u) := by
    by_cases h : cap = i + 1
    · refine ⟨⟨b, off, none⟩, by simp [h], Lib.hid (fun t u hu => ?_)⟩
      have h0 : news.length = 0 := by
        rw [hlen, show n - (i + 1) = 0 by omega, Nat.zero_mul]
      rw [List.length_eq_zero_iff.1 h0] at hu
      simp at hu
    · refine ⟨⟨b, off + (i + 1) * 6, none⟩, by simp [h], Lib.hid (fun t u hu => ?_)⟩
      have ht : t < (n - (i + 1)) * 6 := by
        have := (List.getElem?_eq_some_iff.1 hu).1
        rwa [hlen] at this
      rw [hnews, List.getElem?_drop] at hu
      rw [Addr.add_lit, show off + (i + 1) * 6 + t = off + ((i + 1) * 6 + t) by omega]
      exact (hcell ((i + 1) * 6 + t) (by omega)).trans hu
  have s1 := Lib.hid hlen
  have s2 : Hid (∀ u ∈ news, u.oneCell' = true) := Lib.hid (fun u hu => by
    rw [hnews] at hu
    exact h1 u (List.mem_of_mem_drop hu))
  have s3 : Hid (∀ t, t < news.length → (w.drew.cell? ⟨b, off + i * 6 + t, none⟩).isSome = true ∧ w.drew.frozen? ⟨b, off + i * 6 + t, none⟩ = false) := Lib.hid (fun t ht => by
    rw [hlen] at ht
    refine ⟨?_, hB.frozen _⟩
    show (w.cell? _).isSome = true
    rw [Nat.add_assoc, hcell (i * 6 + t) (by omega), List.getElem?_eq_getElem (by omega)]
    rfl)
  obtain ⟨W1, hW1⟩ : ∃ W1, W1 = w.drew.setCells b (off + i * 6) news := ⟨_, rfl⟩
  have hB1 : Blk W1 b 80 (cur.toList.take (off + i * 6) ++ news ++ cur.toList.drop (off + i * 6 + news.length)).toArray := by
    rw [hW1]
    exact heap_setCells b 80 news (off + i * 6) w.drew cur (hB.heap (w' := w.drew) rfl) (by omega)
  obtain ⟨u1, u2, u3, u4⟩ := setCells_same b news (off + i * 6) w.drew
  rw [← hW1] at u1 u2 u3 u4
  have hC1 : Chg [b] w W1 := ⟨u1, u2, u3, Nat.le_of_eq u4.symm, fun j _ hj => by
    rw [hW1]
    exact setCells_far b news _ w.drew j (by simpa using hj)⟩
  have hs1 : (cur.toList.take (off + i * 6) ++ news ++ cur.toList.drop (off + i * 6 + news.length)).length = cur.size := by
    simp only [List.length_append, List.length_take, List.length_drop, Array.length_toList]
    omega
  obtain ⟨cu1, hcu1⟩ : ∃ cu1, cu1 = cur.toList.take (off + i * 6) ++ news ++ cur.toList.drop (off + i * 6 + news.length) := ⟨_, rfl⟩
  rw [← hcu1] at hB1 hs1
  have e1 : i + (n - (i + 1)) = n - 1 := by omega
  have hcl : ∀ ty, (Builtin.clear_ #[78] ty #[.slice (some ⟨b, off + (i + (n - (i + 1))) * 6, none⟩) (n - (i + (n - (i + 1)))) (cap - (i + (n - (i + 1))))]).run Tryz.prog W1 = .ok (.tuple #[]) (W1.setCells b (off + (n - 1) * 6) [.int .i64 0, .string ⟨#[]⟩, .int .i64 0, .int .i64 0, .int .i64 0, .int .i64 0]) := fun ty => by
    rw [e1, show n - (n - 1) = 1 by omega]
    exact run_clear_one W1 _ 80 ty (.agg #[.int .i64 0, .string ⟨#[]⟩, .int .i64 0, .int .i64 0, .int .i64 0, .int .i64 0]) [.int .i64 0, .string ⟨#[]⟩, .int .i64 0, .int .i64 0, .int .i64 0, .int .i64 0] Tryz.underlying78 (fun W => by first | rfl | kernel_rfl) rfl (by simp [Value.oneCell']) b (off + (n - 1) * 6) _ (fun j hj => by
      have hj2 : j < 6 := hj
      rw [hB1.cell]
      rw [List.getElem?_toArray, List.getElem?_eq_getElem (by omega)]
      rfl) (fun j hj => hB1.frozen _)
  have hfin : Sl (W1.setCells b (off + (n - 1) * 6) [.int .i64 0, .string ⟨#[]⟩, .int .i64 0, .int .i64 0, .int .i64 0, .int .i64 0]) 80 6 (.slice (some ⟨b, off, none⟩) (i + (n - (i + 1))) cap) (some b) (n - 1) (xs.take (i * 6) ++ news) := by
    have hB2 := heap_setCells b 80 [.int .i64 0, .string ⟨#[]⟩, .int .i64 0, .int .i64 0, .int .i64 0, .int .i64 0] (off + (n - 1) * 6) W1 cu1.toArray hB1 (by simp; omega)
    rw [e1]
    refine ⟨by rw [List.length_append, List.length_take, hlen]; omega, .inr ⟨b, off, cap, _, rfl, rfl, hB2, by omega, hcm, ?_, ?_⟩⟩
    · simp only [List.size_toArray, List.length_append, List.length_take, List.length_drop, List.length_cons, List.length_nil, hs1]
      omega
    · have hl1 : (cu1.take (off + (n - 1) * 6)).length = off + (n - 1) * 6 := by
        rw [List.length_take, hs1]
        omega
      show (List.drop off (cu1.take (off + (n - 1) * 6) ++ [.int .i64 0, .string ⟨#[]⟩, .int .i64 0, .int .i64 0, .int .i64 0, .int .i64 0] ++ _)).take ((n - 1) * 6) = xs.take (i * 6) ++ news
      rw [List.append_assoc, List.drop_append_of_le_length (by omega), List.take_append_of_le_length (by rw [List.length_drop, hl1]; omega), List.drop_take, Nat.add_sub_cancel_left, List.take_take, Nat.min_self, hcu1]
      have hl0 : (cur.toList.take (off + i * 6)).length = off + i * 6 := by
        rw [List.length_take, Array.length_toList]
        omega
      rw [List.append_assoc, List.drop_append_of_le_length (by omega), List.drop_take, Nat.add_sub_cancel_left, ← List.append_assoc]
      rw [List.take_append_of_le_length (by rw [List.length_append, List.length_take, List.length_drop, Array.length_toList, hlen]; omega)]
      rw [← htake, List.take_take, Nat.min_eq_left (by omega)]
      exact List.take_of_length_le (by rw [List.length_append, List.length_take, List.length_drop, Array.length_toList, hlen]; omega)
  obtain ⟨y1, y2, y3, y4⟩ := setCells_same b [.int .i64 0, .string ⟨#[]⟩, .int .i64 0, .int .i64 0, .int .i64 0, .int .i64 0] (off + (n - 1) * 6) W1
  have hC2 : Chg [b] w (W1.setCells b (off + (n - 1) * 6) [.int .i64 0, .string ⟨#[]⟩, .int .i64 0, .int .i64 0, .int .i64 0, .int .i64 0]) := ⟨y1.trans u1, y2.trans u2, y3.trans u3, by rw [y4, u4]; exact Nat.le_refl _, fun j hj hjn => (setCells_far b _ _ W1 j (by simpa using hjn)).trans (hC1.block j hj hjn)⟩
  have HFIN := Lib.hid hfin
  have HC2 := Lib.hid hC2
  have HNEWS := Lib.hid hnews
  have HW1 := Lib.hid hW1
  clear hcell hnews hlen u1 u2 u3 u4 hB1 hC1 hs1 hcu1 hW1 y1 y2 y3 y4 hfin hC2 e1 htake
  go_enter Tryz.func147, Tryz.ntmps147
  go_wp2_with fail
  go_region_law (first
    | (refine step_append_room rfl (.tmp 22) (.tmp 25) 78 rfl 80 i0 6 Tryz.underlying78 hi0 hz1 b off i cap (by simp [Act.eval, Act.put]) A (n - (i + 1)) (cap - (i + 1)) news (by simp [Act.eval, Act.put]) s1.out hsrc.out s2.out (by omega) s3.out ?_; rw [← HW1.out])
    | fail)
  all_goals
    go_wp2
    go_ret
    exact ⟨_, rfl, by rw [← HNEWS.out]; exact HFIN.out, HC2.out⟩

end Go.Proofs.YtgkfknbhkonfdaaGreatDoor
