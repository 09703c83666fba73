/-
  The walks of the store's thread and of its reading of a head.
-/
import Derived.Test.YtmbibhphpjmboaaGreatDoorSplit
namespace Go.Proofs.YtmbibhphpjmboaaGreatDoor
open Go.Shelf Go.RowKit
attribute [local go_sem ↓] Go.wp_at_zero Go.wp_at_succ

theorem gatherF_sum : ∀ (L : List (List UInt8 × Nat)) (g : List (List UInt8)) (b : Nat), sumL (gatherF L g b).1 ≤ sumL g + sumP L
  | [], g, b => by simp [gatherF, sumP]
  | (t, p) :: r, g, b => by
    have h5 : sumP ((t, p) :: r) = t.length + sumP r := by simp [sumP]
    rw [gatherF]
    split
    · show sumL g ≤ _
      omega
    · have h1 := gatherF_sum r (addLine g t) b
      rw [addLine_sum] at h1
      omega
theorem split_names (s : List UInt8) : ∀ f ∈ (splitF s).1, f.1.length ≤ s.length := by
  intro f hf
  have h1 := gatherF_sum (linesF s.length s 0) [] s.length
  have h2 := linesF_sum s.length s 0
  have h0 : sumL ([] : List (List UInt8)) = 0 := by simp [sumL]
  have hf : f ∈ fieldsF (gatherF (linesF s.length s 0) [] s.length).1 := hf
  generalize (gatherF (linesF s.length s 0) [] s.length).1 = g at hf h1
  have h3 : ∀ l : List (List UInt8), f ∈ fieldsG l → ∃ t ∈ l, (oneF t).1 = f := by
    intro l hl
    obtain ⟨t, ht, he⟩ := List.mem_filterMap.1 hl
    refine ⟨t, ht, ?_⟩
    split at he
    · exact Option.some.inj he
    · cases he
  have h4 : ∃ t ∈ g, (oneF t).1 = f := by
    cases g with
    | nil => cases hf
    | cons x r =>
      obtain ⟨t, ht, he⟩ := h3 (if blankB x = true then r else x :: r) hf
      refine ⟨t, ?_, he⟩
      split at ht
      · exact List.mem_cons_of_mem _ ht
      · exact ht
  obtain ⟨t, ht, rfl⟩ := h4
  have h6 := sumL_mem ht
  have h7 := (cut_le t [58]).1
  show (Lib.cut t [58]).1.length ≤ _
  omega

theorem head_any (t name : List UInt8) (ht : t.length ≤ 2147483648) (hn : name.length ≤ 4294967296) (w : World) :
    Calls Tryz.prog 119 #[.string ⟨t.toArray⟩, .string ⟨name.toArray⟩] w fun e w' => e = .returned (.string ⟨(headF t name).toArray⟩) ∧ Below w.heap.size w w' := by
  have hsp := split_any t ht w
  have hnm := split_names t
  unfold headF
  generalize (splitF t).2 = bp at hsp
  generalize (splitF t).1 = l at hsp hnm ⊢
  have hfi := fun W v (hr : RdS W [] 2 v l.length (flatG encF l)) => first_any W v [] l hr name hn (fun f hf => by have := hnm f hf; omega)
  generalize firstF l name = ans at hfi
  obtain ⟨a1, a2⟩ := ans
  have HFI := Lib.hid hfi
  clear hnm hfi
  go_enter Tryz.func119, Tryz.ntmps119
  go_wp2_with (first
    | (go_at_call 120; refine hsp.mono ?_; rintro e w1 ⟨v, hh, rfl, hs1, _, hb1⟩; have hfi := HFI.out w1 v (hs1.reads [] (by simp)); have HB1 := Lib.hid hb1; clear hsp hs1 hb1)
    | (go_at_call 121; refine hfi.mono ?_; rintro e w2 ⟨rfl, hb2⟩; have HB2 := Lib.hid (below_then HB1.out hb2); clear hfi hb2)
    | fail)
  go_ret
  exact ⟨rfl, HB2.out⟩

def irt : List UInt8 := [105, 110, 45, 114, 101, 112, 108, 121, 45, 116, 111]
def mid : List UInt8 := [109, 101, 115, 115, 97, 103, 101, 45, 105, 100]
theorem find_hit {α : Type} (p : α → Bool) : ∀ (l : List α) (k : Nat) (hk : k < l.length), p l[k] = true → (∀ j (hj : j < l.length), j < k → p l[j] = false) → l.find? p = some l[k]
  | x :: r, 0, _, h, _ => by
    have h : p x = true := h
    simp [h]
  | x :: r, k + 1, hk, h, hj => by
    have h0 : p x = false := hj 0 (by simp) (by omega)
    rw [List.find?_cons_of_neg (by simp [h0])]
    exact find_hit p r k (by simpa using hk) (by simpa using h) (fun j hj1 hj2 => hj (j + 1) (by simpa using hj1) (by omega))
theorem find_miss {α : Type} (p : α → Bool) (l : List α) (h : ∀ j (hj : j < l.length), p l[j] = false) : l.find? p = none := by
  rw [List.find?_eq_none]
  intro x hx
  obtain ⟨j, hj, rfl⟩ := List.getElem_of_mem hx
  simp [h j hj]

set_option maxRecDepth 100000 in
set_option maxHeartbeats 1000000 in
theorem thread_any (w : World) (g : Nat) (q : Lies) (x : Acc) (h : StoreAt w g q x) (hn : x.mails.length ≤ 1099511627776) (hm : ∀ m ∈ x.mails, m.text.length ≤ 2147483648) (t : List UInt8) (ht : t.length ≤ 2147483648) :
    Calls Tryz.prog 57 #[.pointer (some ⟨g, 0, none⟩), .string ⟨t.toArray⟩] w fun e w' => e = .returned (.int .i64 (threadP headF x t)) ∧ Below w.heap.size w w' := by
  have hd := fun W => head_any t irt ht (by decide) W
  obtain ⟨ans, hans⟩ : ∃ ans, threadP headF x t = ans := ⟨_, rfl⟩
  rw [hans]
  have hans2 : ans = if headF t irt = [] then 0 else match x.mails.find? (fun m => decide (headF m.text mid = headF t irt)) with
    | some m => m.thread
    | none => 0 := by
    rw [← hans]
    rfl
  obtain ⟨to_, hto⟩ : ∃ to_, headF t irt = to_ := ⟨_, rfl⟩
  rw [hto] at hans2
  have hd : ∀ W, Calls Tryz.prog 119 #[.string ⟨t.toArray⟩, .string ⟨#[105, 110, 45, 114, 101, 112, 108, 121, 45, 116, 111]⟩] W fun e w' => e = .returned (.string ⟨to_.toArray⟩) ∧ Below W.heap.size W w' := fun W => by
    have := hd W
    rw [hto] at this
    exact this
  have c11 := h.cell11
  have hgl := h.blk.lt
  have HA := Lib.hid hans2
  have H := Lib.hid h
  have HM := Lib.hid hm
  obtain ⟨A, cap, hvm, _, _⟩ := h.mails.form
  rw [hvm] at c11
  obtain ⟨n, hnn⟩ : ∃ n, x.mails.length = n := ⟨_, rfl⟩
  rw [hnn] at c11 hn
  have HN := Lib.hid hnn
  have HVM := Lib.hid hvm
  clear hans hans2 hto h hm hnn hvm
  cases to_ with
  | nil =>
    rw [if_pos rfl] at HA
    go_enter Tryz.func57, Tryz.ntmps57
    go_wp2_with (first
      | (go_at_call 119; refine (hd _).mono ?_; rintro e w1 ⟨rfl, hb1⟩; clear hd)
      | fail)
    go_ret
    exact ⟨by rw [HA.out]; rfl, hb1⟩
  | cons c r =>
    rw [if_neg (by simp)] at HA
    go_enter Tryz.func57, Tryz.ntmps57
    go_wp2_with (first
      | (go_at_call 119; refine (hd _).mono ?_; rintro e w1 ⟨rfl, hb1⟩; have k11 := (hb1.cell (p := ⟨g, 11, none⟩) hgl).trans c11; have HB1 := Lib.hid hb1; clear hd hb1)
      | fail)
    go_loopw [19] (fun i wr => ∃ k : Nat, k ≤ n ∧ i = .int .i64 k ∧ Hid (Below w.heap.size w wr) ∧ Hid (∀ j (hj : j < x.mails.length), j < k → decide (headF x.mails[j].text mid = c :: r) = false)) (fun i _ => n - (intOf i).toNat)
    case atStart => exact ⟨0, Nat.zero_le _, rfl, HB1, Lib.hid (fun j hj h => by omega)⟩
    case round =>
      obtain ⟨k, hk, rfl, HB, HP⟩ := hrel
      by_cases hlt : k < n
      · have hkm : k < x.mails.length := by rw [HN.out]; exact hlt
        have hk2 : k < q.ms.length := by rw [H.out.msLen]; exact hkm
        obtain ⟨b, off, cap2, hv2, _, _, _, hbl, hat⟩ := H.out.mailAt k hkm hk2
        rw [HVM.out, HN.out] at hv2
        injection hv2 with hv3 hv4 hv5
        subst hv3 hv5
        clear hv4
        have hp := H.out.msAt k hkm hk2
        have hml := HM.out _ (List.getElem_mem hkm)
        have hhit := find_hit (fun m : MailP => decide (headF m.text mid = c :: r)) x.mails k hkm
        have hsnoc : decide (headF x.mails[k].text mid = c :: r) = false → ∀ j (hj : j < x.mails.length), j < k + 1 → decide (headF x.mails[j].text mid = c :: r) = false := fun h0 j hj hjk => by
          by_cases hjk2 : j = k
          · subst hjk2
            exact h0
          · exact HP.out j hj (by omega)
        rw [← hp] at hml hhit hsnoc
        have l0 := (HB.out.cell (p := ⟨b, off + k * 8, none⟩) hbl).trans (hat 0 (by omega)).1
        have l1 := (HB.out.cell (p := ⟨b, off + k * 8 + 1, none⟩) hbl).trans (hat 1 (by omega)).1
        have l2 := (HB.out.cell (p := ⟨b, off + k * 8 + 2, none⟩) hbl).trans (hat 2 (by omega)).1
        have l3 := (HB.out.cell (p := ⟨b, off + k * 8 + 3, none⟩) hbl).trans (hat 3 (by omega)).1
        have l4 := (HB.out.cell (p := ⟨b, off + k * 8 + 4, none⟩) hbl).trans (hat 4 (by omega)).1
        have l5 := (HB.out.cell (p := ⟨b, off + k * 8 + 5, none⟩) hbl).trans (hat 5 (by omega)).1
        have l6 := (HB.out.cell (p := ⟨b, off + k * 8 + 6, none⟩) hbl).trans (hat 6 (by omega)).1
        have l7 := (HB.out.cell (p := ⟨b, off + k * 8 + 7, none⟩) hbl).trans (hat 7 (by omega)).1
        have hpt := H.out.parts _ (List.getElem_mem hk2)
        obtain ⟨m, hmm⟩ : ∃ m, m = q.ms[k] := ⟨_, rfl⟩
        rw [← hmm] at l0 l1 l2 l3 l4 l5 l6 l7 hml hhit hsnoc hpt hp
        obtain ⟨⟨id, th, tx, ta, ks, me, mo, bo⟩, kv, mv⟩ := m
        obtain ⟨A1, p1, e1, _, _⟩ := hpt.keys.form
        obtain ⟨A2, p2, e2, _, _⟩ := hpt.mem.form
        have hkv : kv = .slice A1 ks.length p1 := e1
        have hmv : mv = .slice A2 me.length p2 := e2
        clear hpt e1 e2
        subst hkv hmv
        have d0 : wr.cell? ⟨b, off + k * 8, none⟩ = some (.int .i64 id) := l0
        have d1 : wr.cell? ⟨b, off + k * 8 + 1, none⟩ = some (.int .i64 th) := l1
        have d2 : wr.cell? ⟨b, off + k * 8 + 2, none⟩ = some (.string ⟨tx.toArray⟩) := l2
        have d3 : wr.cell? ⟨b, off + k * 8 + 3, none⟩ = some (.int .i64 ta) := l3
        have d4 : wr.cell? ⟨b, off + k * 8 + 4, none⟩ = some (.slice A1 ks.length p1) := l4
        have d5 : wr.cell? ⟨b, off + k * 8 + 5, none⟩ = some (.slice A2 me.length p2) := l5
        have d6 : wr.cell? ⟨b, off + k * 8 + 6, none⟩ = some (.int .i64 mo) := l6
        have d7 : wr.cell? ⟨b, off + k * 8 + 7, none⟩ = some (.int .i64 bo) := l7
        have hd2 := fun W => head_any tx mid hml (by decide) W
        have hd2 : ∀ W, Calls Tryz.prog 119 #[.string ⟨tx.toArray⟩, .string ⟨#[109, 101, 115, 115, 97, 103, 101, 45, 105, 100]⟩] W fun e w' => e = .returned (.string ⟨(headF tx mid).toArray⟩) ∧ Below W.heap.size W w' := hd2
        simp only at hhit hsnoc
        generalize headF tx mid = hh at hd2 hhit hsnoc
        by_cases he : hh = c :: r
        · have hf := hhit (by simp [he]) HP.out
          have hth : ans = th := by
            rw [HA.out, hf]
          clear hat hhit hsnoc l0 l1 l2 l3 l4 l5 l6 l7 hp hml hf hmm
          subst he
          go_wp2_with (first
            | (go_at_call 119; refine (hd2 _).mono ?_; rintro e w3 ⟨rfl, hb3⟩; have z1 : w3.cell? ⟨wr.heap.size, 1, none⟩ = some (.int .i64 th) := ((Blk.new wr _ _).below hb3 (by simp)).cell 1; have HB3 := Lib.hid (below_then HB.out (below_then (below_alloc1 wr _) hb3)); clear hd2 hb3)
            | fail)
          go_ret
          exact ⟨by rw [hth]; rfl, HB3.out⟩
        · have hq : (hh == c :: r) = false := by simpa using he
          have HP2 := Lib.hid (hsnoc (by simpa using he))
          clear hat hhit hsnoc l0 l1 l2 l3 l4 l5 l6 l7 hp hml hmm
          go_wp2_with (first
            | (go_at_call 119; refine (hd2 _).mono ?_; rintro e w3 ⟨rfl, hb3⟩; have z1 : w3.cell? ⟨wr.heap.size, 1, none⟩ = some (.int .i64 th) := ((Blk.new wr _ _).below hb3 (by simp)).cell 1; have HB3 := Lib.hid (below_then HB.out (below_then (below_alloc1 wr _) hb3)); clear hd2 hb3)
            | fail)
          refine ⟨?_, by simp [intOf]; omega⟩
          first | exact ⟨k + 1, by omega, by go_num, HB3, HP2⟩ | ((repeat apply Exists.intro); exact ⟨⟨k + 1, by omega, by go_num, HB3, HP2⟩, rfl⟩)
      · have hkn : k = n := by omega
        subst hkn
        have hf := find_miss (fun m : MailP => decide (headF m.text mid = c :: r)) x.mails (fun j hj => HP.out j hj (by rw [← HN.out]; exact hj))
        rw [hf] at HA
        go_wp2_with fail
        go_ret
        exact ⟨by rw [HA.out]; rfl, HB.out⟩

end Go.Proofs.YtmbibhphpjmboaaGreatDoor
