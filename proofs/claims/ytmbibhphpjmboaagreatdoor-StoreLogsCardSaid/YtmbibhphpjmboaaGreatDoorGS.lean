/-
  A slice of structs sorted by a whole number that no two share: what the library's SortFunc leaves; the walk of cmp.Compare at int.
  An email of an account whose members are turned in a block that is new: the account behind it.
  What the loop of the store's Place over fresh mailboxes keeps.
  The library's SortFunc over members, as the store's Place calls it.
  What the store's Place needs ahead of its last way: closures, plain facts about the members.
-/
import Derived.Test.YtmbibhphpjmboaaGreatDoorGA
import Derived.Test.YtmbibhphpjmboaaGreatDoorGR
import Derived.Test.YtmbibhphpjmboaaGreatDoorGC
import Derived.Test.YtmbibhphpjmboaaGreatDoorGD
import Derived.Test.YtmbibhphpjmboaaGreatDoorProg
import Derived.Deep.RegionWith
import Derived.Shelf.SlSortCmp.WholeK
import Derived.Shelf.SlGeneric
import Derived.Shelf.Lay
import Derived.Ground.SlsfProg
import Derived.Deep.DrawnRows
import Derived.BigQuiet
namespace Go.Proofs.YtmbibhphpjmboaaGreatDoor
open Go.Shelf Go.RowKit Go.Lib Go.Sort
attribute [local go_sem ↓] Go.wp_at_zero Go.wp_at_succ

set_option maxRecDepth 100000 in
theorem cmpG_any (x y : Int) (w : World) : Calls Tryz.prog 91 #[.int .i64 x, .int .i64 y] w fun e w' => e = .returned (.int .i64 (Lib.compareInt x y)) ∧ w = w' := by
  obtain ⟨r, hr⟩ : ∃ r, Lib.compareInt x y = r := ⟨_, rfl⟩
  rw [hr]
  have HR := Lib.hid hr
  clear hr
  by_cases h1 : x < y
  · have hr2 : r = -1 := by rw [← HR.out]; exact if_pos h1
    subst hr2
    clear HR
    go_enter Tryz.func91, Tryz.ntmps91
    go_wp2
    go_ret
    exact ⟨rfl, rfl⟩
  · by_cases h2 : y < x
    · have hr2 : r = 1 := by rw [← HR.out]; unfold Lib.compareInt; rw [if_neg h1, if_pos h2]
      subst hr2
      clear HR
      go_enter Tryz.func91, Tryz.ntmps91
      go_wp2
      go_ret
      exact ⟨rfl, rfl⟩
    · have hr2 : r = 0 := by rw [← HR.out]; unfold Lib.compareInt; rw [if_neg h1, if_neg h2]
      subst hr2
      clear HR
      go_enter Tryz.func91, Tryz.ntmps91
      go_wp2
      go_ret
      exact ⟨rfl, rfl⟩

theorem flatK_flatG {α : Type} [Inhabited α] (encA : α → List Value) (k : Nat) (hk : 0 < k) (hl : ∀ a, (encA a).length = k) (l : List α) : (flatK encA k l.toArray).toList = flatG encA l := by
  apply List.ext_getElem
  · simp [flatG_length hl]
  · intro t h1 h2
    have ht : t < l.length * k := by simpa [flatG_length hl] using h2
    have hg := get_flatK encA k l.toArray t (by simpa using ht)
    rw [getElem!_pos _ _ (by simpa using ht)] at hg
    rw [Array.getElem_toList, hg]
    have hj : t / k < l.length := (Nat.div_lt_iff_lt_mul hk).2 ht
    have hm : t % k < k := Nat.mod_lt _ hk
    have h3 := flatG_get hl l (t / k) (t % k) hj hm
    have h4 : t / k * k + t % k = t := by
      rw [Nat.mul_comm]
      exact Nat.div_add_mod t k
    rw [h4, List.getElem?_eq_getElem h2] at h3
    have hx : (l.toArray[t / k]! : α) = l[t / k] := by rw [getElem!_pos _ _ (by simpa using hj)]; simp
    rw [hx]
    have hle : t % k < (encA l[t / k]).length := by rw [hl]; exact hm
    rw [List.getElem?_eq_getElem hle] at h3
    rw [getElem!_pos (encA l[t / k]) (t % k) hle]
    exact (Option.some.inj h3).symm

section
variable {w w' : World} {e : TypeId} {b off n cap size : Nat} {h : Option Nat} {xs : List Value}

theorem growG_chg (w : World) (q : Nat) (d : Array Value) (b off : Nat) (os : Array Obj) : Chg [b] w (grow (putRow id (Sort.ahead w q) b off d) os) := by
  refine ⟨rfl, rfl, rfl, by simp, fun k hk hne => ?_⟩
  rw [heap_grow_old _ _ (by simpa using hk)]
  have : b ≠ k := fun e => hne (by simp [e])
  simp [putRow, mapBlock, Sort.ahead, Array.getElem?_modify, this]
theorem growG_blk {cur : Array Value} (hB : Blk w b e cur) (q : Nat) (d : Array Value) (os : Array Obj) : Blk (grow (putRow id (Sort.ahead w q) b off d) os) b e (putCells id off d cur) := by
  have hlt := hB.lt
  unfold Blk at hB ⊢
  rw [heap_grow_old _ _ (by simpa using hlt)]
  simp [putRow, mapBlock, Sort.ahead, Array.getElem?_modify, hB]
  rfl
theorem putCellsG_at (cur : Array Value) (d : Array Value) (h : off + d.size ≤ cur.size) : ((putCells id off d cur).toList.drop off).take d.size = d.toList := by
  apply List.ext_getElem?
  intro k
  rw [List.getElem?_take]
  by_cases hk : k < d.size
  · rw [if_pos hk, List.getElem?_drop]
    simp only [putCells, Array.getElem?_toList, Array.getElem?_mapIdx]
    rw [Array.getElem?_eq_getElem (show off + k < cur.size by omega), Option.map_some, if_pos ⟨by omega, by omega⟩, Nat.add_sub_cancel_left]
    simp [hk]
  · rw [if_neg hk, List.getElem?_eq_none]
    simp
    omega
theorem Sl.putRowG (hs : Sl w e size (.slice (some ⟨b, off, none⟩) n cap) h n xs) (q : Nat) (d : Array Value) (hd : d.size = n * size) (os : Array Obj) :
    Sl (grow (Sort.putRow id (Sort.ahead w q) b off d) os) e size (.slice (some ⟨b, off, none⟩) n cap) h n d.toList := by
  refine ⟨by simpa using hd, ?_⟩
  rcases hs.2 with ⟨_, hv, _⟩ | ⟨b', off', cap', cur, hh, hv, hB, hnc, hcm, hcs, ht⟩
  · cases hv
  · simp only [Value.slice.injEq, Option.some.injEq, Addr.mk.injEq, and_true, true_and] at hv
    obtain ⟨⟨rfl, rfl⟩, rfl⟩ := hv
    have hle : n * size ≤ cap * size := Nat.mul_le_mul_right _ hnc
    refine .inr ⟨b, off, cap, _, hh, rfl, growG_blk hB q d os, hnc, hcm, by simpa [putCells] using hcs, ?_⟩
    rw [← hd]
    exact putCellsG_at cur d (by omega)
theorem Sl.holdsG {d : Array Value} (hs : Sl w e size (.slice (some ⟨b, off, none⟩) n cap) h n d.toList) : Holds id w b off d := by
  have hn : d.size = n * size := by have := hs.1; simpa using this
  intro j hj
  have hn0 : 0 < n := by
    rcases Nat.eq_zero_or_pos n with h0 | h0
    · subst h0; omega
    · exact h0
  obtain ⟨b', off', cap', hh, hv, _, _, _, hat⟩ := hs.at_ hn0
  simp only [Value.slice.injEq, Option.some.injEq, Addr.mk.injEq, and_true, true_and] at hv
  obtain ⟨⟨rfl, rfl⟩, rfl⟩ := hv
  obtain ⟨h1, h2⟩ := hat j (by omega)
  refine ⟨?_, h2⟩
  rw [h1]
  simp [hj]
end

/-- By what they are sorted. -/
def cfG {α : Type} (key : α → Int) (x y : α) : Int := Lib.compareInt (key x) (key y)
theorem ltG {α : Type} (key : α → Int) (x y : α) : ltOf (cfG key) x y = decide (key x < key y) := by
  unfold ltOf cfG Lib.compareInt
  by_cases h1 : key x < key y
  · simp [h1]
  · by_cases h2 : key y < key x
    · simp [h1, h2]
    · simp [h1, h2]
theorem swoG {α : Type} (key : α → Int) : SWO (ltOf (cfG key)) where
  irrefl x := by rw [ltG]; simp
  trans x y z h1 h2 := by rw [ltG] at *; simp only [decide_eq_true_eq] at *; omega
  ntrans x y z h1 h2 := by rw [ltG] at *; simp only [decide_eq_false_iff_not] at *; omega

theorem strict_inj {α : Type} (key : α → Int) {m : List α} (hm : m.Pairwise fun a b => key a < key b) {a b : α} (ha : a ∈ m) (hb : b ∈ m) (h : key a = key b) : a = b := by
  obtain ⟨i, hi, rfl⟩ := List.getElem_of_mem ha
  obtain ⟨j, hj, rfl⟩ := List.getElem_of_mem hb
  have hp := List.pairwise_iff_getElem.1 hm
  rcases Nat.lt_trichotomy i j with h1 | h1 | h1
  · have := hp i j hi hj h1
    omega
  · subst h1
    rfl
  · have := hp j i hj hi h1
    omega
theorem perm_keys_eq {α : Type} (key : α → Int) {l m : List α} (hp : l.Perm m) (hl : l.Pairwise fun a b => key a ≤ key b) (hm : m.Pairwise fun a b => key a < key b) : l = m := by
  refine List.Perm.eq_of_pairwise (le := fun a b => key a ≤ key b) ?_ hl (hm.imp fun h => Int.le_of_lt h) hp
  intro a b ha hb h1 h2
  exact strict_inj key hm (hp.mem_iff.1 ha) hb (by omega)
/-- What the library's sort leaves is the one rising list. -/
theorem sorted_is {α : Type} [Inhabited α] (key : α → Int) {l m : List α} {d' : Array α} (hP : PermIn 0 l.toArray.size l.toArray d') (hS : SortedIn (ltOf (cfG key)) 0 l.toArray.size d') (hp : m.Perm l) (hm : m.Pairwise fun a b => key a < key b) : d' = m.toArray := by
  obtain ⟨hsz, _, hperm⟩ := hP
  have e1 : d'.extract 0 l.toArray.size = d' := by rw [← hsz]; exact Array.extract_size
  rw [e1, Array.extract_size] at hperm
  have h1 : d'.toList = m := by
    refine perm_keys_eq key (hperm.trans hp.symm) ?_ hm
    rw [List.pairwise_iff_getElem]
    intro i j hi hj hij
    have hi' : i < d'.size := by simpa using hi
    have hj' : j < d'.size := by simpa using hj
    have := hS i j (Nat.zero_le _) hij (by omega)
    rw [getElem!_pos d' j hj', getElem!_pos d' i hi', ltG] at this
    simp only [decide_eq_false_iff_not] at this
    simp only [Array.getElem_toList]
    omega
  rw [← h1]

end Go.Proofs.YtmbibhphpjmboaaGreatDoor

namespace Go.Proofs.YtmbibhphpjmboaaGreatDoor
open Go.Shelf Go.RowKit

section
variable {w W W2 : World} {g : Nat} {q : Lies} {x x1 : Acc}

theorem Lies.own_ms (q : Lies) (g : Nat) (ms : List MailM) : ({ q with ms := ms } : Lies).own g = q.own g := rfl

/-- Blocks that are new turn; the i-th email is another one, whose cell j is stored. -/
theorem Turned.turnPart {S : List Nat} {ms : List MailM} {m1 m2 : MailM} {b off n cap i j : Nat} {u : Value} (hms : ms = q.ms.set i m1) (ht : Turned w W g q x1 { q with ms := ms }) (hw : StoreAt w g q x) (hc : Chg S W W2) (hS : ∀ k ∈ S, w.heap.size ≤ k) (hv : q.vm = .slice (some ⟨b, off, none⟩) n cap) (hi : i < q.ms.length) (hj : j < 8)
    (hm2 : encM m2 = (encM m1).set j u) (hp : PartAt W2 (q.own g) m2) : Turned w (W2.setCell ⟨b, off + i * 8 + j, none⟩ u) g q { x1 with mails := x1.mails.set i m2.p } { q with ms := q.ms.set i m2 } := by
  subst hms
  have h := ht.at_
  have hno : ∀ k ∈ q.own g, k ∉ S := fun k hk hm => by
    have h1 := hw.lt k hk
    have h2 := hS k hm
    omega
  have hsame := h.same
  have hlen : x1.mails.length = q.ms.length := by
    rw [← hsame, List.length_map, List.length_set]
  have hsb := h.mails.chg hc (fun b hb => hno b (Lies.own_hm (q := q) hb))
  have hv2 : ({ q with ms := q.ms.set i m1 } : Lies).vm = .slice (some ⟨b, off, none⟩) n cap := hv
  rw [hv2] at hsb
  have hn : n = x1.mails.length := by
    obtain ⟨A, c, hv3, _⟩ := hsb.form
    injection hv3
  subst hn
  have hbb : q.hm = some b := by
    obtain ⟨b', off', cap', hh, hv3, _⟩ := hsb.at_ (by omega)
    injection hv3 with e1
    injection e1 with e2
    injection e2 with e3
    have h4 : q.hm = some b' := hh
    rw [h4, e3]
  have ha := hw.apart
  have hgb : g ≠ b := fun e => ha.hm (by rw [hbb, e])
  have hc1 : Chg [b] W2 (W2.setCell ⟨b, off + i * 8 + j, none⟩ u) := (Chg.refl [b] W2).set (.inl (by simp)) u
  have hown : ∀ k ∈ [b], k ∈ q.own g ∨ W2.heap.size ≤ k := fun k hk => by
    simp only [List.mem_singleton] at hk
    subst hk
    exact .inl (Lies.own_hm hbb)
  have hc2 : Chg (q.own g) w W2 := ht.chg.trans hc fun k hk => .inr (hS k hk)
  have hc3 : Chg (q.own g) w (W2.setCell ⟨b, off + i * 8 + j, none⟩ u) := hc2.trans hc1 fun k hk => by
    simp only [List.mem_singleton] at hk
    subst hk
    exact .inl (Lies.own_hm hbb)
  refine ⟨⟨?_, ?_, ?_, ?_, ?_, fun a ha2 => ?_⟩, hc3, fun k hk => .inl hk⟩
  · exact (h.blk.chg hc (hno g Lies.own_g)).far (p := ⟨b, off + i * 8 + j, none⟩) hgb u
  · exact (h.log.chg hc (hno _ (Lies.own_gl (q := q))) (fun b hb => hno b (Lies.own_hl (q := q) hb))).chg hc1 (by simp only [List.mem_singleton]; rintro e; exact ha.lm (by rw [hbb]; exact congrArg some e.symm)) (fun k hk => by
      simp only [List.mem_singleton]
      rintro rfl
      exact ha.em _ hk hbb)
  · exact (h.boxes.chg hc (fun b hb => hno b (Lies.own_hb (q := q) hb))).far (p := ⟨b, off + i * 8 + j, none⟩) (fun e => ha.bm b e hbb) u
  · show (q.ms.set i m2).map (·.p) = x1.mails.set i m2.p
    rw [← hsame, List.map_set]
    show _ = ((q.ms.set i m1).map (·.p)).set i m2.p
    rw [List.map_set, List.set_set]
  · have hi2 : i < (q.ms.set i m1).length := by rw [List.length_set]; exact hi
    have h1 := hsb.store (i * 8 + j) u
    have h2 := flatG_set encM_length (q.ms.set i m1) i j hi2 hj u m2 (by rw [List.getElem_set_self]; exact hm2)
    rw [List.set_set] at h2
    have h3 : (flatG encM ({ q with ms := q.ms.set i m1 } : Lies).ms).set (i * 8 + j) u = flatG encM (q.ms.set i m2) := h2
    rw [h3] at h1
    show Sl _ _ 8 q.vm q.hm (x1.mails.set i m2.p).length (flatG encM (q.ms.set i m2))
    rw [hv, List.length_set]
    rw [← Nat.add_assoc] at h1
    exact h1
  · have ha3 : a ∈ q.ms.set i m2 := ha2
    rcases List.mem_or_eq_of_mem_set ha3 with h1 | h1
    · exact (hw.parts a h1).step hc3 (fun k hk => .inl hk)
    · subst h1
      exact hp.keep hc1.size (fun k hk hn => hc1.block k hk (fun hm => by
        simp only [List.mem_singleton] at hm
        subst hm
        exact hn (Lies.own_hm hbb))) (fun _ _ h => h)

/-- Blocks that are new turn; the i-th email is another one, in the same cells. -/
theorem Turned.turnPart0 {S : List Nat} {ms : List MailM} {m1 m2 : MailM} {i : Nat} (hms : ms = q.ms.set i m1) (ht : Turned w W g q x1 { q with ms := ms }) (hw : StoreAt w g q x) (hc : Chg S W W2) (hS : ∀ k ∈ S, w.heap.size ≤ k) (hi : i < q.ms.length)
    (hm2 : encM m2 = encM m1) (hp : PartAt W2 (q.own g) m2) : Turned w W2 g q { x1 with mails := x1.mails.set i m2.p } { q with ms := q.ms.set i m2 } := by
  subst hms
  have h := ht.at_
  have hno : ∀ k ∈ q.own g, k ∉ S := fun k hk hm => by
    have h1 := hw.lt k hk
    have h2 := hS k hm
    omega
  have hsame := h.same
  have hc3 : Chg (q.own g) w W2 := ht.chg.trans hc fun k hk => .inr (hS k hk)
  have hfl : flatG encM (q.ms.set i m2) = flatG encM (q.ms.set i m1) := by
    have h1 := flatG_set encM_length (q.ms.set i m1) i 0 (by rw [List.length_set]; exact hi) (by omega) (.int .i64 m1.p.id) m2 (by rw [List.getElem_set_self, hm2]; rfl)
    rw [List.set_set] at h1
    rw [← h1]
    apply List.ext_getElem?
    intro k
    by_cases hk : i * 8 = k
    · subst hk
      have h2 := flatG_get encM_length (q.ms.set i m1) i 0 (by rw [List.length_set]; exact hi) (by omega)
      rw [Nat.add_zero] at h2 ⊢
      have h3 := flatG_length encM_length (q.ms.set i m1)
      rw [List.length_set] at h3
      rw [List.getElem?_set_self (by omega), h2, List.getElem_set_self]
      rfl
    · rw [Nat.add_zero, List.getElem?_set_ne (by omega)]
  refine ⟨⟨h.blk.chg hc (hno g Lies.own_g), h.log.chg hc (hno _ (Lies.own_gl (q := q))) (fun b hb => hno b (Lies.own_hl (q := q) hb)), h.boxes.chg hc (fun b hb => hno b (Lies.own_hb (q := q) hb)), ?_, ?_, fun a ha2 => ?_⟩, hc3, fun k hk => .inl hk⟩
  · show (q.ms.set i m2).map (·.p) = x1.mails.set i m2.p
    rw [← hsame, List.map_set]
    show _ = ((q.ms.set i m1).map (·.p)).set i m2.p
    rw [List.map_set, List.set_set]
  · have hsb := h.mails.chg hc (fun b hb => hno b (Lies.own_hm (q := q) hb))
    show Sl _ _ 8 q.vm q.hm (x1.mails.set i m2.p).length (flatG encM (q.ms.set i m2))
    rw [List.length_set, hfl]
    exact hsb
  · have ha3 : a ∈ q.ms.set i m2 := ha2
    rcases List.mem_or_eq_of_mem_set ha3 with h1 | h1
    · exact (hw.parts a h1).step hc3 (fun k hk => .inl hk)
    · subst h1
      exact hp
end

/-- A slice of a block that there is. -/
theorem Sl.some_ {w : World} {e : TypeId} {size n c : Nat} {A : Option Addr} {b : Nat} {xs : List Value} (hs : Sl w e size (.slice A n c) (some b) n xs) : ∃ off, A = some ⟨b, off, none⟩ := by
  rcases hs.2 with ⟨h1, _⟩ | ⟨b', off', cap', cur, hh, hv, _⟩
  · cases h1
  · injection hh with hh
    injection hv with hv1 _ _
    exact ⟨off', by rw [hv1, hh]⟩

end Go.Proofs.YtmbibhphpjmboaaGreatDoor

namespace Go.Proofs.YtmbibhphpjmboaaGreatDoor
open Go.Shelf Go.RowKit

/-- The email behind some fresh mailboxes; in memory; the account. -/
def plMail (p : MailP) (base : List (Int × Int)) (l : List Int) (bx : List BoxP) : MailP := { p with members := base ++ (numbers l bx).2 }
def plAcc (x : Acc) (i : Nat) (p : MailP) (base : List (Int × Int)) (l : List Int) : Acc := { x with boxes := (numbers l x.boxes).1, mails := x.mails.set i (plMail p base l x.boxes) }

structure PlRel (w wr : World) (g : Nat) (q : Lies) (x : Acc) (i : Nat) (m0 : MailM) (base : List (Int × Int)) (l : List Int) (mv : Value) (h : Option Nat) : Prop where
  st : Turned w wr g q (plAcc x i m0.p base l) { q with ms := q.ms.set i ⟨plMail m0.p base l x.boxes, m0.kv, mv⟩ }
  mem : Sl wr 71 2 mv h (base ++ (numbers l x.boxes).2).length (flatG encMem (base ++ (numbers l x.boxes).2))
  new : ∀ b, h = some b → w.heap.size ≤ b

section
variable {w wr W W2 : World} {g : Nat} {q : Lies} {x : Acc} {i : Nat} {m0 : MailM} {base : List (Int × Int)} {l : List Int} {mv mv' : Value} {h h' : Option Nat}

/-- An email's part whose members lie in a new block. -/
theorem partNew (hw : StoreAt w g q x) (hm0 : m0 ∈ q.ms) (hc : Chg (q.own g) w W2) {ms : List (Int × Int)} {p : MailP} (hk : p.keys = m0.p.keys) (hms : p.members = ms) (hs : Sl W2 71 2 mv h ms.length (flatG encMem ms)) (hf : ∀ b, h = some b → w.heap.size ≤ b) :
    PartAt W2 (q.own g) ⟨p, m0.kv, mv⟩ := by
  have h0 := (hw.parts m0 hm0).step (q' := q) hc (fun k hk => .inl hk)
  refine ⟨?_, ?_, h0.tk, hs.ty⟩
  · show RdS W2 (q.own g) 1 m0.kv p.keys.length (p.keys.map encStr)
    rw [hk]
    exact h0.keys
  · show RdS W2 (q.own g) 2 mv p.members.length (flatG encMem p.members)
    rw [hms]
    exact hs.reads _ (fun b hb hm => by
      have h1 := hw.lt b hm
      have h2 := hf b hb
      omega)

theorem numbers_nil (bx : List BoxP) : numbers [] bx = (bx, []) := rfl

/-- At the loop's start: the members that stay are stored. -/
theorem PlRel.start {b off n cap : Nat} (hw : StoreAt w g q x) (hi : i < q.ms.length) (hm0 : q.ms[i] = m0) (hv : q.vm = .slice (some ⟨b, off, none⟩) n cap) (hb : Chg h.toList w W2) (hf : ∀ b, h = some b → w.heap.size ≤ b)
    (hs : Sl W2 71 2 mv h base.length (flatG encMem base)) (hbel : Below w.heap.size w W2) : PlRel w (W2.setCell ⟨b, off + i * 8 + 5, none⟩ mv) g q x i m0 base [] mv h := by
  have ha := hw.apart
  have hmem : m0 ∈ q.ms := hm0 ▸ List.getElem_mem hi
  have hbm : q.hm = some b := by
    have hsb := hw.mails
    rw [hv] at hsb
    have hn : n = x.mails.length := by
      obtain ⟨A, c, hv3, _⟩ := hsb.form
      injection hv3
    have hl := hw.msLen
    obtain ⟨b', off', cap', hh, hv3, _⟩ := hsb.at_ (by omega)
    injection hv3 with e1
    injection e1 with e2
    injection e2 with e3
    rw [hh, e3]
  have hself : q.ms = q.ms.set i m0 := by rw [← hm0, List.set_getElem_self]
  have ht := (Turned.refl hw).turnPart (m2 := ⟨plMail m0.p base [] x.boxes, m0.kv, mv⟩) (j := 5) (u := mv) hself hw hb (fun k hk => hf k (by simpa using hk)) hv hi (by omega) rfl
    (partNew hw hmem (Chg.of_below hbel _) rfl (by show base ++ (numbers [] x.boxes).2 = base; rw [numbers_nil]; simp) hs hf)
  refine ⟨?_, ?_, hf⟩
  · have h1 : plAcc x i m0.p base [] = { x with mails := x.mails.set i (plMail m0.p base [] x.boxes) } := rfl
    rw [h1]
    exact ht
  · rw [numbers_nil, List.append_nil]
    exact hs.far (p := ⟨b, off + i * 8 + 5, none⟩) (fun e => by
      have h1 := hf b e
      have h2 := hw.lt b (Lies.own_hm hbm)
      omega) mv

/-- One round: the number came, the member was put behind. -/
theorem PlRel.next {b off n cap : Nat} {id : Int} (hR : PlRel w wr g q x i m0 base l mv h) (hw : StoreAt w g q x) (hi : i < q.ms.length) (hm0 : q.ms[i] = m0) (hv : q.vm = .slice (some ⟨b, off, none⟩) n cap)
    (ht : Turned wr W g { q with ms := q.ms.set i ⟨plMail m0.p base l x.boxes, m0.kv, mv⟩ } { plAcc x i m0.p base l with boxes := bump id (numbers l x.boxes).1 } { q with ms := q.ms.set i ⟨plMail m0.p base l x.boxes, m0.kv, mv⟩ })
    (hs2 : Sl W2 71 2 mv' h' ((base ++ (numbers l x.boxes).2).length + 1) (flatG encMem (base ++ (numbers l x.boxes).2) ++ [.int .i64 id, .int .i64 (nextOf (numbers l x.boxes).1 id)])) (hc : Chg h.toList W W2) (ho : h' = h ∨ ∃ g, h' = some g ∧ W.heap.size ≤ g) :
    PlRel w (W2.setCell ⟨b, off + i * 8 + 5, none⟩ mv') g q x i m0 base (l ++ [id]) mv' h' := by
  have hsn := numbers_snoc l id x.boxes
  have hmem : m0 ∈ q.ms := hm0 ▸ List.getElem_mem hi
  have htW := hR.st.trans ht
  have hszW : w.heap.size ≤ W.heap.size := htW.chg.size
  have hnew : ∀ b, h' = some b → w.heap.size ≤ b := fun b hb => by
    rcases ho with h1 | ⟨g2, h1, h2⟩
    · exact hR.new b (by rw [← h1]; exact hb)
    · rw [h1] at hb
      injection hb with hb
      omega
  have hbm : q.hm = some b := by
    have hsb := hw.mails
    rw [hv] at hsb
    have hn : n = x.mails.length := by
      obtain ⟨A, c, hv3, _⟩ := hsb.form
      injection hv3
    have hl := hw.msLen
    obtain ⟨b', off', cap', hh, hv3, _⟩ := hsb.at_ (by omega)
    injection hv3 with e1
    injection e1 with e2
    injection e2 with e3
    rw [hh, e3]
  have hcw2 : Chg (q.own g) w W2 := htW.chg.trans hc fun k hk => .inr (hR.new k (by simpa using hk))
  have hmem2 : base ++ (numbers (l ++ [id]) x.boxes).2 = base ++ (numbers l x.boxes).2 ++ [(id, nextOf (numbers l x.boxes).1 id)] := by
    rw [hsn]
    simp
  have hs3 : Sl W2 71 2 mv' h' (base ++ (numbers (l ++ [id]) x.boxes).2).length (flatG encMem (base ++ (numbers (l ++ [id]) x.boxes).2)) := by
    rw [hmem2, flatG_append, List.length_append]
    exact hs2
  have h1 := htW.turnPart (m1 := ⟨plMail m0.p base l x.boxes, m0.kv, mv⟩) (m2 := ⟨plMail m0.p base (l ++ [id]) x.boxes, m0.kv, mv'⟩) (j := 5) (u := mv') rfl hw hc (fun k hk => hR.new k (by simpa using hk)) hv hi (by omega) rfl
    (partNew hw hmem hcw2 rfl rfl hs3 hnew)
  refine ⟨?_, ?_, hnew⟩
  · have h2 : plAcc x i m0.p base (l ++ [id]) = { { plAcc x i m0.p base l with boxes := bump id (numbers l x.boxes).1 } with mails := (x.mails.set i (plMail m0.p base l x.boxes)).set i (plMail m0.p base (l ++ [id]) x.boxes) } := by
      unfold plAcc
      rw [List.set_set, hsn]
    rw [h2]
    exact h1
  · exact hs3.far (p := ⟨b, off + i * 8 + 5, none⟩) (fun e => by
      have h1 := hnew b e
      have h2 := hw.lt b (Lies.own_hm hbm)
      omega) mv'

/-- Behind the sort. -/
theorem PlRel.sorted {mems : List (Int × Int)} (hR : PlRel w wr g q x i m0 base l mv h) (hw : StoreAt w g q x) (hi : i < q.ms.length) (hm0 : q.ms[i] = m0) (hc : Chg h.toList wr W2) (hlen : mems.length = (base ++ (numbers l x.boxes).2).length)
    (hs : Sl W2 71 2 mv h (base ++ (numbers l x.boxes).2).length (flatG encMem mems)) :
    Turned w W2 g q { plAcc x i m0.p base l with mails := x.mails.set i { m0.p with members := mems } } { q with ms := q.ms.set i ⟨{ m0.p with members := mems }, m0.kv, mv⟩ } := by
  have hmem : m0 ∈ q.ms := hm0 ▸ List.getElem_mem hi
  have hcw2 : Chg (q.own g) w W2 := hR.st.chg.trans hc fun k hk => .inr (hR.new k (by simpa using hk))
  rw [← hlen] at hs
  have h1 := hR.st.turnPart0 (m1 := ⟨plMail m0.p base l x.boxes, m0.kv, mv⟩) (m2 := ⟨{ m0.p with members := mems }, m0.kv, mv⟩) rfl hw hc (fun k hk => hR.new k (by simpa using hk)) hi rfl (partNew hw hmem hcw2 rfl rfl hs hR.new)
  have h2 : (plAcc x i m0.p base l).mails.set i { m0.p with members := mems } = x.mails.set i { m0.p with members := mems } := by
    unfold plAcc
    rw [List.set_set]
  rw [← h2]
  exact h1
end

end Go.Proofs.YtmbibhphpjmboaaGreatDoor

namespace Go.Proofs.YtmbibhphpjmboaaGreatDoor
open Go.Shelf Go.RowKit Go.Lib Go.Sort
attribute [local go_sem ↓] Go.wp_at_zero Go.wp_at_succ

set_option maxRecDepth 100000 in
set_option maxHeartbeats 1000000 in
theorem placeCmp_any (x y : Int × Int) (W : World) : Calls Tryz.prog 90 #[.agg #[.int .i64 x.1, .int .i64 x.2], .agg #[.int .i64 y.1, .int .i64 y.2]] W fun e w' => e = .returned (.int .i64 (cfG (fun p : Int × Int => p.1) x y)) ∧ ∃ q os', w' = grow (W.drewN q) os' := by
  obtain ⟨x1, x2⟩ := x
  obtain ⟨y1, y2⟩ := y
  unfold cfG
  simp only
  obtain ⟨r1, hr1⟩ : ∃ r, Lib.compareInt x1 y1 = r := ⟨_, rfl⟩
  have hc1 := fun W => cmpG_any x1 y1 W
  rw [hr1] at hc1 ⊢
  clear hr1
  go_enter Tryz.func90, Tryz.ntmps90
  go_wp2_with (first
    | (go_at_call 91; with_reducible refine (hc1 _).mono ?_; rintro e w3 ⟨rfl, rfl⟩)
    | fail)
  go_ret
  exact ⟨rfl, 0, _, by rw [alloc_eq_grow, alloc_eq_grow, grow_grow]; rfl⟩

theorem placeCmp_lays (blk off size : Nat) (w : World) : CmpLays Tryz.prog 90 #[] encMem 2 (cfG fun p : Int × Int => p.1) blk off size w :=
  fun _ _ _ _ x y => placeCmp_any x y _

shelf_lay_g SlLaysF0.n6 Slsf 6 at Tryz 89 as Tryz.sortMem

theorem sortM_perm {l : List (Int × Int)} (h : (l.map (·.1)).Nodup) : (sortM l).Perm l := by
  obtain ⟨h1, h2⟩ := sortM_ok h
  refine (List.perm_ext_iff_of_nodup ?_ ?_).2 h2
  · exact h1.imp fun {a b} hab e => by
      rw [e] at hab
      exact absurd hab (Int.lt_irrefl _)
  · exact (List.pairwise_map.1 h).imp fun {a b} hab e => hab (by rw [e])
theorem sortM_length {l : List (Int × Int)} (h : (l.map (·.1)).Nodup) : (sortM l).length = l.length := (sortM_perm h).length_eq

set_option maxHeartbeats 400000 in
theorem sortMem_any (w : World) (A : Addr) (cap : Nat) (h : Option Nat) (l : List (Int × Int)) (hs : Sl w 71 2 (.slice (some A) l.length cap) h l.length (flatG encMem l)) (hd : (l.map (·.1)).Nodup) (hn : l.length ≤ 1099511627776) :
    Calls Tryz.prog 89 #[.slice (some A) l.length cap, .func (.func 90) #[] #[]] w fun e w' => e = .returned (.tuple #[]) ∧ Sl w' 71 2 (.slice (some A) l.length cap) h l.length (flatG encMem (sortM l)) ∧ Chg h.toList w w' := by
  rcases hs.2 with ⟨_, hv, _⟩ | ⟨b, off, cap', cur, rfl, hv, hB, hnc, hcm, hcs, ht⟩
  · cases hv
  · injection hv with hv1 _ hv3
    injection hv1 with hv1
    subst hv1 hv3
    have hs' := hs
    rw [← flatK_flatG encMem 2 (by omega) encMem_length l] at hs'
    have eg : ∀ args w, (callFunc 90 args).run Tryz.prog w = .ok (.enter 90 args) w := enters_of Tryz.func90 (by kernel_rfl) rfl
    have hc := AnyQ.slices_SortFunc Tryz.sortMem 2 Tryz.isAgg71 Tryz.sizeOf71 encMem encMem_length encMem_one (cfG fun p : Int × Int => p.1) (swoG _) 90 #[] b off cap l.toArray w eg (placeCmp_lays b off _ w) hs'.holdsG hB.lt (by simp; omega)
    have hsz : l.toArray.size = l.length := by simp
    rw [hsz] at hc
    refine hc.mono ?_
    rintro e w' ⟨rfl, d', q, os, hP, hS, rfl⟩
    have hd' : d' = (sortM l).toArray := sorted_is (fun p : Int × Int => p.1) (by rw [hsz]; exact hP) (by rw [hsz]; exact hS) (sortM_perm hd) (sortM_ok hd).1
    subst hd'
    refine ⟨rfl, ?_, growG_chg _ _ _ _ _ _⟩
    have h2 := hs.putRowG q (flatK encMem 2 (sortM l).toArray) (by simp [sortM_length hd]) os
    rw [flatK_flatG encMem 2 (by omega) encMem_length] at h2
    exact h2

end Go.Proofs.YtmbibhphpjmboaaGreatDoor

namespace Go.Proofs.YtmbibhphpjmboaaGreatDoor
open Go.Shelf Go.RowKit
attribute [local go_sem ↓] Go.wp_at_zero Go.wp_at_succ

set_option maxRecDepth 100000 in
theorem inPred3_any (x : Int × Int) (B : Nat) (v : Value) (l : List Int) (W : World) (hB : W.cell? ⟨B, 0, none⟩ = some v) (hr : RdS W [] 1 v l.length (l.map encI)) (hn : l.length ≤ 1099511627776) :
    Calls Tryz.prog 88 (#[.agg (encMem x).toArray] ++ #[.pointer (some ⟨B, 0, none⟩)]) W fun e w' => e = .returned (.bool (decide (x.1 ∈ l))) ∧ Below W.heap.size W w' := by
  obtain ⟨x1, x2⟩ := x
  have hc := fun W2 (hb : Below W.heap.size W W2) => containsI_any v [] l x1 W2 (hr.below hb) hn
  have hBl := World.block_lt_of_cell? _ _ hB
  have hBa := (World.cell?_alloc_lt W (.cells #[.int .i64 x1, .int .i64 x2] 71) ⟨B, 0, none⟩ hBl).trans hB
  show Calls Tryz.prog 88 #[.agg #[.int .i64 x1, .int .i64 x2], .pointer (some ⟨B, 0, none⟩)] W _
  have HC := Lib.hid hc
  clear hr hc
  simp only
  generalize hq : decide (x1 ∈ l) = r at HC ⊢
  clear hq
  go_enter Tryz.func88, Tryz.ntmps88
  go_wp2_with (first
    | (go_at_call 84; refine (HC.out _ (below_alloc1 _ _)).mono ?_; rintro e w2 ⟨rfl, rfl⟩)
    | fail)
  go_ret
  exact ⟨rfl, below_alloc1 _ _⟩

/-- As delBy, of a list that is not empty: what comes back is no nil slice. -/
theorem delBy2 {w0 w4 : World} {v4 vk : Value} {h4 hk : Option Nat} {l k : List Int} {B : Nat} (fn : Nat) (hne : l ≠ []) (eg : ∀ args w, (callFunc fn args).run Tryz.prog w = .ok (.enter fn args) w)
    (hpred : ∀ (x : Int) (W : World), W.cell? ⟨B, 0, none⟩ = some vk → RdS W [] 1 vk k.length (k.map encI) → k.length ≤ 1099511627776 → Calls Tryz.prog fn (#[.int .i64 x] ++ #[.pointer (some ⟨B, 0, none⟩)]) W fun e w' => e = .returned (.bool (decide (x ∈ k))) ∧ Below W.heap.size W w')
    (hcell : w0.cell? ⟨B, 0, none⟩ = some vk) (hsk : Sl w0 3 1 vk hk k.length (k.map encI)) (hkn : k.length ≤ 1099511627776) (hs4 : Sl w4 3 1 v4 h4 l.length (l.map encI)) (hln : l.length ≤ 1099511627776) (hb4 : Below w0.heap.size w0 w4) (ho4 : ∀ b, h4 = some b → w0.heap.size ≤ b) :
    Calls Tryz.prog 81 #[v4, .func (.func fn) #[] #[.pointer (some ⟨B, 0, none⟩)]] w4 fun e w' => ∃ (A5 : Addr) (n5 c5 : Nat) (h5 : Option Nat), e = .returned (.slice (some A5) n5 c5) ∧ n5 = (l.filter fun x => !decide (x ∈ k)).length ∧ Sl w' 3 1 (.slice (some A5) n5 c5) h5 n5 ((l.filter fun x => !decide (x ∈ k)).map encI) ∧ (∀ b, h5 = some b → w0.heap.size ≤ b) ∧ Below w0.heap.size w0 w' := by
  have hBl := World.block_lt_of_cell? _ _ hcell
  have hpos : 0 < l.length := List.length_pos_iff.2 hne
  obtain ⟨b4, o4, c4, hh4, hv4, _⟩ := hs4.at_ hpos
  refine (delI_any v4 h4 l (fun x => decide (x ∈ k)) fn _ eg w4 hs4 hln (fun W hc x _ => ?_)).mono ?_
  · have hb : Below w0.heap.size w0 W := hb4.trans (hc.below hb4.size (fun b hb => ho4 b (by simpa using hb)))
    exact hpred x W ((hb.cell (p := ⟨B, 0, none⟩) hBl).trans hcell) ((hsk.keep (fun b hb2 => hb.block b (hsk.lt b hb2))).reads [] (by simp)) hkn
  · rintro e w' ⟨v', rfl, hs, hc⟩
    obtain ⟨A5, c5, rfl, _, _⟩ := hs.form
    have hs2 := hs
    rw [hh4] at hs2
    obtain ⟨off, rfl⟩ := hs2.some_
    exact ⟨_, _, c5, h4, rfl, rfl, hs, ho4, hb4.trans (hc.below hb4.size (fun b hb => ho4 b (by simpa using hb)))⟩

/-- The members that stay, and the fresh ones behind them. -/
theorem placed_keys {x : Acc} (hf : Fit x) {m : MailP} (hm : m ∈ x.mails) {bs : List Int} {fr lf : List Int} (hfr : ((rise bs).filter fun b => !decide (b ∈ ids1 m.members)) = fr) (hlf : ((ids1 m.members).filter fun b => !decide (b ∈ rise bs)) = lf) :
    (((m.members.filter fun p => !decide (p.1 ∈ lf)) ++ (numbers fr x.boxes).2).map (·.1)).Nodup := by
  have h1 := (hf.mail m hm).mem
  have h2 := placed_nodup (bs := x.boxes) (boxes := bs) h1
  have hfn : fr.Nodup := by
    rw [← hfr]
    exact (List.filter_sublist (l := rise bs)).nodup (rise_nodup bs)
  rw [numbers_eq fr x.boxes hf.idsB hfn]
  subst hfr hlf
  exact h2
theorem placed_some {x : Acc} {m : MailP} {bs : List Int} (hne : bs ≠ []) {fr lf : List Int} (hfr : ((rise bs).filter fun b => !decide (b ∈ ids1 m.members)) = fr) (hlf : ((ids1 m.members).filter fun b => !decide (b ∈ rise bs)) = lf) :
    0 < ((m.members.filter fun p => !decide (p.1 ∈ lf)) ++ (numbers fr x.boxes).2).length := by
  obtain ⟨i, hi⟩ : ∃ i, i ∈ bs := by
    cases bs with
    | nil => exact absurd rfl hne
    | cons i r => exact ⟨i, by simp⟩
  have hr := (mem_rise bs i).2 hi
  rw [List.length_append, numbers_len2]
  by_cases hw : i ∈ ids1 m.members
  · obtain ⟨p, hp, hpe⟩ := List.mem_map.1 hw
    have h3 : p ∈ m.members.filter fun p => !decide (p.1 ∈ lf) := List.mem_filter.2 ⟨hp, by
      rw [← hlf]
      have : p.1 = i := hpe
      simp [this, hr]⟩
    have := List.length_pos_of_mem h3
    omega
  · have h3 : i ∈ fr := by
      rw [← hfr]
      exact List.mem_filter.2 ⟨hr, by simpa using hw⟩
    have := List.length_pos_of_mem h3
    omega
/-- A cell of the email's, the i-th. -/
theorem mailCellOf {W : World} {g : Nat} {q : Lies} {x' : Acc} {m1 : MailM} {b off n cap i : Nat} (h : StoreAt W g { q with ms := q.ms.set i m1 } x') (hv : q.vm = .slice (some ⟨b, off, none⟩) n cap) (hi : i < q.ms.length) :
    b < W.heap.size ∧ ∀ j, j < 8 → W.cell? ⟨b, off + i * 8 + j, none⟩ = (encM m1)[j]? ∧ W.frozen? ⟨b, off + i * 8 + j, none⟩ = false := by
  have hl : i < x'.mails.length := by
    have h1 := h.msLen
    have h2 : (q.ms.set i m1).length = q.ms.length := List.length_set
    have h3 : ({ q with ms := q.ms.set i m1 } : Lies).ms.length = q.ms.length := h2
    omega
  have hi2 : i < ({ q with ms := q.ms.set i m1 } : Lies).ms.length := by
    show i < (q.ms.set i m1).length
    rw [List.length_set]
    exact hi
  obtain ⟨b', off', cap', hv', _, _, _, hlt, hat⟩ := h.mailAt i hl hi2
  have hv2 : q.vm = .slice (some ⟨b', off', none⟩) x'.mails.length cap' := hv'
  rw [hv] at hv2
  injection hv2 with e1 _ _
  injection e1 with e1
  injection e1 with e1 e2
  subst e1 e2
  refine ⟨hlt, fun j hj => ?_⟩
  have h4 := hat j hj
  have h5 : ({ q with ms := q.ms.set i m1 } : Lies).ms[i] = m1 := List.getElem_set_self _
  rw [h5] at h4
  exact h4

end Go.Proofs.YtmbibhphpjmboaaGreatDoor
