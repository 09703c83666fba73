/-
  The walk of the laws' doOne: one act, by its number.
  What one act does to the plain account: it stays fit, and each act leaves it as it was or has its clock go on by one. What is too much to be played.
  A slice of acts that came in: their numbers, names, and what their slices of mailboxes and keywords read.
-/
import Derived.Test.YtmbibhphpjmboaaGreatDoorGO
import Derived.Test.YtmbibhphpjmboaaGreatDoorGN
import Derived.Test.YtmbibhphpjmboaaGreatDoorGF
import Derived.Test.YtmbibhphpjmboaaGreatDoorGX
import Derived.ProofKit
import Derived.Deep.SlicePairs
namespace Go.Proofs.YtmbibhphpjmboaaGreatDoor
open Go.Shelf Go.RowKit
attribute [local go_sem ↓] Go.wp_at_zero Go.wp_at_succ

structure ActP where
  op : Int
  id : Int
  at_ : Int
  name : Text
  boxes : List Int
  keys : Texts
def doP (x : Acc) (a : ActP) : Acc × Int :=
  if a.op = 0 then ((makeP rightU x a.name a.at_).1, (makeP rightU x a.name a.at_).2.2)
  else if a.op = 1 then renameP rightU x a.id a.name a.at_
  else if a.op = 2 then dropP x a.id
  else if a.op = 3 ∨ a.op = 4 ∨ a.op = 5 then ((appendP headF x a.boxes a.keys a.at_ a.name).1, (appendP headF x a.boxes a.keys a.at_ a.name).2.2)
  else if a.op = 6 ∨ a.op = 7 then keysP x a.id a.keys
  else if a.op = 8 ∨ a.op = 9 then placeP x a.id a.boxes
  else if a.op = 10 then destroyP x a.id
  else (x, 0)
/-- What Place is to be (not yet walked whole). -/
def PlaceOk : Prop := ∀ (w : World) (g : Nat) (q : Lies) (x : Acc) (id : Int) (bs : List Int) (vb : Value) (Sb : List Nat), StoreAt w g q x → Fit x → RdS w Sb 1 vb bs.length (bs.map encI) → bs.length ≤ 4294967296 →
  Calls Tryz.prog 31 #[.pointer (some ⟨g, 0, none⟩), .int .i64 id, vb] w (ErrOut w g q (placeP x id bs))

set_option maxRecDepth 100000 in
set_option maxHeartbeats 4000000 in
theorem do_0 (_ : AppendOk) (_ : PlaceOk) (w : World) (g : Nat) (q : Lies) (x : Acc) (op id at_ : Int) (nm : Text) (bs : List Int) (ks : Texts) (vb vk : Value) (Sb Sk : List Nat) (hin : AppIn w g q x bs vb Sb ks vk Sk nm) (hop : op = 0) :
    Calls Tryz.prog 35 #[.pointer (some ⟨g, 0, none⟩), .agg #[.int .i64 op, .int .i64 id, .int .i64 at_, .string ⟨nm.toArray⟩, vb, vk]] w (ErrOut w g q (doP x ⟨op, id, at_, nm, bs, ks⟩)) := by
  subst hop
  have hres : doP x ⟨0, id, at_, nm, bs, ks⟩ = ((makeP rightU x nm at_).1, (makeP rightU x nm at_).2.2) := by
    simp [doP]
  rw [hres]
  obtain ⟨Ab, cb, hvb, _, _⟩ := hin.boxes.form
  obtain ⟨Ak, ck, hvk, _, _⟩ := hin.keys.form
  subst hvb hvk
  obtain ⟨nb, hnb⟩ : ∃ nb, bs.length = nb := ⟨_, rfl⟩
  obtain ⟨nk, hnk⟩ : ∃ nk, ks.length = nk := ⟨_, rfl⟩
  obtain ⟨w1, hw1⟩ : ∃ w1 : World, w1 = w.alloc (.cells #[.int .i64 0, .int .i64 id, .int .i64 at_, .string ⟨nm.toArray⟩, .slice Ab bs.length cb, .slice Ak ks.length ck] 66) := ⟨_, rfl⟩
  have hb1 : Below w.heap.size w w1 := by rw [hw1]; exact below_alloc1 _ _
  have hc := make_any w1 g q x nm at_ (hin.at_.later hb1) hin.fit hin.text
  rw [hw1] at hb1 hc
  rw [hnb, hnk] at hb1
  rw [hnb, hnk]
  rw [hnb, hnk] at hc
  have HB1 := Lib.hid hb1
  have H := Lib.hid hin.at_
  clear hres hb1 hin hnb hnk hw1
  go_enter Tryz.func35, Tryz.ntmps35
  go_wp2_with (first
    | (go_at_call 27; refine hc.mono ?_; rintro e w2 ⟨rfl, q2, ht⟩; have HT := Lib.hid ht; clear hc ht)
    | (go_at_call 18; refine (num_any _ _).mono ?_; rintro e wn ⟨rfl, rfl⟩)
    | fail)
  go_ret
  exact ⟨rfl, q2, (Turned.of_below H.out HB1.out).trans HT.out⟩

set_option maxRecDepth 100000 in
set_option maxHeartbeats 4000000 in
theorem do_1 (_ : AppendOk) (_ : PlaceOk) (w : World) (g : Nat) (q : Lies) (x : Acc) (op id at_ : Int) (nm : Text) (bs : List Int) (ks : Texts) (vb vk : Value) (Sb Sk : List Nat) (hin : AppIn w g q x bs vb Sb ks vk Sk nm) (hop : op = 1) :
    Calls Tryz.prog 35 #[.pointer (some ⟨g, 0, none⟩), .agg #[.int .i64 op, .int .i64 id, .int .i64 at_, .string ⟨nm.toArray⟩, vb, vk]] w (ErrOut w g q (doP x ⟨op, id, at_, nm, bs, ks⟩)) := by
  subst hop
  have hres : doP x ⟨1, id, at_, nm, bs, ks⟩ = renameP rightU x id nm at_ := by
    simp [doP]
  rw [hres]
  obtain ⟨Ab, cb, hvb, _, _⟩ := hin.boxes.form
  obtain ⟨Ak, ck, hvk, _, _⟩ := hin.keys.form
  subst hvb hvk
  obtain ⟨nb, hnb⟩ : ∃ nb, bs.length = nb := ⟨_, rfl⟩
  obtain ⟨nk, hnk⟩ : ∃ nk, ks.length = nk := ⟨_, rfl⟩
  obtain ⟨w1, hw1⟩ : ∃ w1 : World, w1 = w.alloc (.cells #[.int .i64 1, .int .i64 id, .int .i64 at_, .string ⟨nm.toArray⟩, .slice Ab bs.length cb, .slice Ak ks.length ck] 66) := ⟨_, rfl⟩
  have hb1 : Below w.heap.size w w1 := by rw [hw1]; exact below_alloc1 _ _
  have hc := rename_said w1 g q x id nm at_ (hin.at_.later hb1) hin.fit hin.text
  rw [hw1] at hb1 hc
  rw [hnb, hnk] at hb1
  rw [hnb, hnk]
  rw [hnb, hnk] at hc
  have HB1 := Lib.hid hb1
  have H := Lib.hid hin.at_
  clear hres hb1 hin hnb hnk hw1
  go_enter Tryz.func35, Tryz.ntmps35
  go_wp2_with (first
    | (go_at_call 29; refine hc.mono ?_; rintro e w2 ⟨rfl, q2, ht⟩; have HT := Lib.hid ht; clear hc ht)
    | (go_at_call 18; refine (num_any _ _).mono ?_; rintro e wn ⟨rfl, rfl⟩)
    | fail)
  go_ret
  exact ⟨rfl, q2, (Turned.of_below H.out HB1.out).trans HT.out⟩

set_option maxRecDepth 100000 in
set_option maxHeartbeats 4000000 in
theorem do_2 (_ : AppendOk) (_ : PlaceOk) (w : World) (g : Nat) (q : Lies) (x : Acc) (op id at_ : Int) (nm : Text) (bs : List Int) (ks : Texts) (vb vk : Value) (Sb Sk : List Nat) (hin : AppIn w g q x bs vb Sb ks vk Sk nm) (hop : op = 2) :
    Calls Tryz.prog 35 #[.pointer (some ⟨g, 0, none⟩), .agg #[.int .i64 op, .int .i64 id, .int .i64 at_, .string ⟨nm.toArray⟩, vb, vk]] w (ErrOut w g q (doP x ⟨op, id, at_, nm, bs, ks⟩)) := by
  subst hop
  have hres : doP x ⟨2, id, at_, nm, bs, ks⟩ = dropP x id := by
    simp [doP]
  rw [hres]
  obtain ⟨Ab, cb, hvb, _, _⟩ := hin.boxes.form
  obtain ⟨Ak, ck, hvk, _, _⟩ := hin.keys.form
  subst hvb hvk
  obtain ⟨nb, hnb⟩ : ∃ nb, bs.length = nb := ⟨_, rfl⟩
  obtain ⟨nk, hnk⟩ : ∃ nk, ks.length = nk := ⟨_, rfl⟩
  obtain ⟨w1, hw1⟩ : ∃ w1 : World, w1 = w.alloc (.cells #[.int .i64 2, .int .i64 id, .int .i64 at_, .string ⟨nm.toArray⟩, .slice Ab bs.length cb, .slice Ak ks.length ck] 66) := ⟨_, rfl⟩
  have hb1 : Below w.heap.size w w1 := by rw [hw1]; exact below_alloc1 _ _
  have hc := drop_said w1 g q x id (hin.at_.later hb1) hin.fit
  rw [hw1] at hb1 hc
  rw [hnb, hnk] at hb1
  rw [hnb, hnk]
  rw [hnb, hnk] at hc
  have HB1 := Lib.hid hb1
  have H := Lib.hid hin.at_
  clear hres hb1 hin hnb hnk hw1
  go_enter Tryz.func35, Tryz.ntmps35
  go_wp2_with (first
    | (go_at_call 30; refine hc.mono ?_; rintro e w2 ⟨rfl, q2, ht⟩; have HT := Lib.hid ht; clear hc ht)
    | (go_at_call 18; refine (num_any _ _).mono ?_; rintro e wn ⟨rfl, rfl⟩)
    | fail)
  go_ret
  exact ⟨rfl, q2, (Turned.of_below H.out HB1.out).trans HT.out⟩

set_option maxRecDepth 100000 in
set_option maxHeartbeats 4000000 in
theorem do_3 (happ : AppendOk) (_ : PlaceOk) (w : World) (g : Nat) (q : Lies) (x : Acc) (op id at_ : Int) (nm : Text) (bs : List Int) (ks : Texts) (vb vk : Value) (Sb Sk : List Nat) (hin : AppIn w g q x bs vb Sb ks vk Sk nm) (hop : op = 3) :
    Calls Tryz.prog 35 #[.pointer (some ⟨g, 0, none⟩), .agg #[.int .i64 op, .int .i64 id, .int .i64 at_, .string ⟨nm.toArray⟩, vb, vk]] w (ErrOut w g q (doP x ⟨op, id, at_, nm, bs, ks⟩)) := by
  subst hop
  have hres : doP x ⟨3, id, at_, nm, bs, ks⟩ = ((appendP headF x bs ks at_ nm).1, (appendP headF x bs ks at_ nm).2.2) := by
    simp [doP]
  rw [hres]
  obtain ⟨Ab, cb, hvb, _, _⟩ := hin.boxes.form
  obtain ⟨Ak, ck, hvk, _, _⟩ := hin.keys.form
  subst hvb hvk
  obtain ⟨nb, hnb⟩ : ∃ nb, bs.length = nb := ⟨_, rfl⟩
  obtain ⟨nk, hnk⟩ : ∃ nk, ks.length = nk := ⟨_, rfl⟩
  obtain ⟨w1, hw1⟩ : ∃ w1 : World, w1 = w.alloc (.cells #[.int .i64 3, .int .i64 id, .int .i64 at_, .string ⟨nm.toArray⟩, .slice Ab bs.length cb, .slice Ak ks.length ck] 66) := ⟨_, rfl⟩
  have hb1 : Below w.heap.size w w1 := by rw [hw1]; exact below_alloc1 _ _
  have hc := happ w1 g q x bs _ Sb ks _ Sk at_ nm ⟨hin.at_.later hb1, hin.fit, hin.boxes.below hb1, hin.nb, hin.keys.below hb1, hin.nk, hin.short, hin.text⟩
  rw [hw1] at hb1 hc
  rw [hnb, hnk] at hb1
  rw [hnb, hnk]
  rw [hnb, hnk] at hc
  have HB1 := Lib.hid hb1
  have H := Lib.hid hin.at_
  clear hres hb1 hin hnb hnk hw1
  go_enter Tryz.func35, Tryz.ntmps35
  go_wp2_with (first
    | (go_at_call 19; refine hc.mono ?_; rintro e w2 ⟨rfl, q2, ht⟩; have HT := Lib.hid ht; clear hc ht)
    | (go_at_call 18; refine (num_any _ _).mono ?_; rintro e wn ⟨rfl, rfl⟩)
    | fail)
  go_ret
  exact ⟨rfl, q2, (Turned.of_below H.out HB1.out).trans HT.out⟩

set_option maxRecDepth 100000 in
set_option maxHeartbeats 4000000 in
theorem do_4 (happ : AppendOk) (_ : PlaceOk) (w : World) (g : Nat) (q : Lies) (x : Acc) (op id at_ : Int) (nm : Text) (bs : List Int) (ks : Texts) (vb vk : Value) (Sb Sk : List Nat) (hin : AppIn w g q x bs vb Sb ks vk Sk nm) (hop : op = 4) :
    Calls Tryz.prog 35 #[.pointer (some ⟨g, 0, none⟩), .agg #[.int .i64 op, .int .i64 id, .int .i64 at_, .string ⟨nm.toArray⟩, vb, vk]] w (ErrOut w g q (doP x ⟨op, id, at_, nm, bs, ks⟩)) := by
  subst hop
  have hres : doP x ⟨4, id, at_, nm, bs, ks⟩ = ((appendP headF x bs ks at_ nm).1, (appendP headF x bs ks at_ nm).2.2) := by
    simp [doP]
  rw [hres]
  obtain ⟨Ab, cb, hvb, _, _⟩ := hin.boxes.form
  obtain ⟨Ak, ck, hvk, _, _⟩ := hin.keys.form
  subst hvb hvk
  obtain ⟨nb, hnb⟩ : ∃ nb, bs.length = nb := ⟨_, rfl⟩
  obtain ⟨nk, hnk⟩ : ∃ nk, ks.length = nk := ⟨_, rfl⟩
  obtain ⟨w1, hw1⟩ : ∃ w1 : World, w1 = w.alloc (.cells #[.int .i64 4, .int .i64 id, .int .i64 at_, .string ⟨nm.toArray⟩, .slice Ab bs.length cb, .slice Ak ks.length ck] 66) := ⟨_, rfl⟩
  have hb1 : Below w.heap.size w w1 := by rw [hw1]; exact below_alloc1 _ _
  have hc := happ w1 g q x bs _ Sb ks _ Sk at_ nm ⟨hin.at_.later hb1, hin.fit, hin.boxes.below hb1, hin.nb, hin.keys.below hb1, hin.nk, hin.short, hin.text⟩
  rw [hw1] at hb1 hc
  rw [hnb, hnk] at hb1
  rw [hnb, hnk]
  rw [hnb, hnk] at hc
  have HB1 := Lib.hid hb1
  have H := Lib.hid hin.at_
  clear hres hb1 hin hnb hnk hw1
  go_enter Tryz.func35, Tryz.ntmps35
  go_wp2_with (first
    | (go_at_call 19; refine hc.mono ?_; rintro e w2 ⟨rfl, q2, ht⟩; have HT := Lib.hid ht; clear hc ht)
    | (go_at_call 18; refine (num_any _ _).mono ?_; rintro e wn ⟨rfl, rfl⟩)
    | fail)
  go_ret
  exact ⟨rfl, q2, (Turned.of_below H.out HB1.out).trans HT.out⟩

set_option maxRecDepth 100000 in
set_option maxHeartbeats 4000000 in
theorem do_5 (happ : AppendOk) (_ : PlaceOk) (w : World) (g : Nat) (q : Lies) (x : Acc) (op id at_ : Int) (nm : Text) (bs : List Int) (ks : Texts) (vb vk : Value) (Sb Sk : List Nat) (hin : AppIn w g q x bs vb Sb ks vk Sk nm) (hop : op = 5) :
    Calls Tryz.prog 35 #[.pointer (some ⟨g, 0, none⟩), .agg #[.int .i64 op, .int .i64 id, .int .i64 at_, .string ⟨nm.toArray⟩, vb, vk]] w (ErrOut w g q (doP x ⟨op, id, at_, nm, bs, ks⟩)) := by
  subst hop
  have hres : doP x ⟨5, id, at_, nm, bs, ks⟩ = ((appendP headF x bs ks at_ nm).1, (appendP headF x bs ks at_ nm).2.2) := by
    simp [doP]
  rw [hres]
  obtain ⟨Ab, cb, hvb, _, _⟩ := hin.boxes.form
  obtain ⟨Ak, ck, hvk, _, _⟩ := hin.keys.form
  subst hvb hvk
  obtain ⟨nb, hnb⟩ : ∃ nb, bs.length = nb := ⟨_, rfl⟩
  obtain ⟨nk, hnk⟩ : ∃ nk, ks.length = nk := ⟨_, rfl⟩
  obtain ⟨w1, hw1⟩ : ∃ w1 : World, w1 = w.alloc (.cells #[.int .i64 5, .int .i64 id, .int .i64 at_, .string ⟨nm.toArray⟩, .slice Ab bs.length cb, .slice Ak ks.length ck] 66) := ⟨_, rfl⟩
  have hb1 : Below w.heap.size w w1 := by rw [hw1]; exact below_alloc1 _ _
  have hc := happ w1 g q x bs _ Sb ks _ Sk at_ nm ⟨hin.at_.later hb1, hin.fit, hin.boxes.below hb1, hin.nb, hin.keys.below hb1, hin.nk, hin.short, hin.text⟩
  rw [hw1] at hb1 hc
  rw [hnb, hnk] at hb1
  rw [hnb, hnk]
  rw [hnb, hnk] at hc
  have HB1 := Lib.hid hb1
  have H := Lib.hid hin.at_
  clear hres hb1 hin hnb hnk hw1
  go_enter Tryz.func35, Tryz.ntmps35
  go_wp2_with (first
    | (go_at_call 19; refine hc.mono ?_; rintro e w2 ⟨rfl, q2, ht⟩; have HT := Lib.hid ht; clear hc ht)
    | (go_at_call 18; refine (num_any _ _).mono ?_; rintro e wn ⟨rfl, rfl⟩)
    | fail)
  go_ret
  exact ⟨rfl, q2, (Turned.of_below H.out HB1.out).trans HT.out⟩

set_option maxRecDepth 100000 in
set_option maxHeartbeats 4000000 in
theorem do_6 (_ : AppendOk) (_ : PlaceOk) (w : World) (g : Nat) (q : Lies) (x : Acc) (op id at_ : Int) (nm : Text) (bs : List Int) (ks : Texts) (vb vk : Value) (Sb Sk : List Nat) (hin : AppIn w g q x bs vb Sb ks vk Sk nm) (hop : op = 6) :
    Calls Tryz.prog 35 #[.pointer (some ⟨g, 0, none⟩), .agg #[.int .i64 op, .int .i64 id, .int .i64 at_, .string ⟨nm.toArray⟩, vb, vk]] w (ErrOut w g q (doP x ⟨op, id, at_, nm, bs, ks⟩)) := by
  subst hop
  have hres : doP x ⟨6, id, at_, nm, bs, ks⟩ = keysP x id ks := by
    simp [doP]
  rw [hres]
  obtain ⟨Ab, cb, hvb, _, _⟩ := hin.boxes.form
  obtain ⟨Ak, ck, hvk, _, _⟩ := hin.keys.form
  subst hvb hvk
  obtain ⟨nb, hnb⟩ : ∃ nb, bs.length = nb := ⟨_, rfl⟩
  obtain ⟨nk, hnk⟩ : ∃ nk, ks.length = nk := ⟨_, rfl⟩
  obtain ⟨w1, hw1⟩ : ∃ w1 : World, w1 = w.alloc (.cells #[.int .i64 6, .int .i64 id, .int .i64 at_, .string ⟨nm.toArray⟩, .slice Ab bs.length cb, .slice Ak ks.length ck] 66) := ⟨_, rfl⟩
  have hb1 : Below w.heap.size w w1 := by rw [hw1]; exact below_alloc1 _ _
  have hc := keys_said w1 g q x id ks _ Sk ⟨hin.at_.later hb1, hin.fit, hin.keys.below hb1, hin.nk, hin.short⟩
  rw [hw1] at hb1 hc
  rw [hnb, hnk] at hb1
  rw [hnb, hnk]
  rw [hnb, hnk] at hc
  have HB1 := Lib.hid hb1
  have H := Lib.hid hin.at_
  clear hres hb1 hin hnb hnk hw1
  go_enter Tryz.func35, Tryz.ntmps35
  go_wp2_with (first
    | (go_at_call 24; refine hc.mono ?_; rintro e w2 ⟨rfl, q2, ht⟩; have HT := Lib.hid ht; clear hc ht)
    | (go_at_call 18; refine (num_any _ _).mono ?_; rintro e wn ⟨rfl, rfl⟩)
    | fail)
  go_ret
  exact ⟨rfl, q2, (Turned.of_below H.out HB1.out).trans HT.out⟩

set_option maxRecDepth 100000 in
set_option maxHeartbeats 4000000 in
theorem do_7 (_ : AppendOk) (_ : PlaceOk) (w : World) (g : Nat) (q : Lies) (x : Acc) (op id at_ : Int) (nm : Text) (bs : List Int) (ks : Texts) (vb vk : Value) (Sb Sk : List Nat) (hin : AppIn w g q x bs vb Sb ks vk Sk nm) (hop : op = 7) :
    Calls Tryz.prog 35 #[.pointer (some ⟨g, 0, none⟩), .agg #[.int .i64 op, .int .i64 id, .int .i64 at_, .string ⟨nm.toArray⟩, vb, vk]] w (ErrOut w g q (doP x ⟨op, id, at_, nm, bs, ks⟩)) := by
  subst hop
  have hres : doP x ⟨7, id, at_, nm, bs, ks⟩ = keysP x id ks := by
    simp [doP]
  rw [hres]
  obtain ⟨Ab, cb, hvb, _, _⟩ := hin.boxes.form
  obtain ⟨Ak, ck, hvk, _, _⟩ := hin.keys.form
  subst hvb hvk
  obtain ⟨nb, hnb⟩ : ∃ nb, bs.length = nb := ⟨_, rfl⟩
  obtain ⟨nk, hnk⟩ : ∃ nk, ks.length = nk := ⟨_, rfl⟩
  obtain ⟨w1, hw1⟩ : ∃ w1 : World, w1 = w.alloc (.cells #[.int .i64 7, .int .i64 id, .int .i64 at_, .string ⟨nm.toArray⟩, .slice Ab bs.length cb, .slice Ak ks.length ck] 66) := ⟨_, rfl⟩
  have hb1 : Below w.heap.size w w1 := by rw [hw1]; exact below_alloc1 _ _
  have hc := keys_said w1 g q x id ks _ Sk ⟨hin.at_.later hb1, hin.fit, hin.keys.below hb1, hin.nk, hin.short⟩
  rw [hw1] at hb1 hc
  rw [hnb, hnk] at hb1
  rw [hnb, hnk]
  rw [hnb, hnk] at hc
  have HB1 := Lib.hid hb1
  have H := Lib.hid hin.at_
  clear hres hb1 hin hnb hnk hw1
  go_enter Tryz.func35, Tryz.ntmps35
  go_wp2_with (first
    | (go_at_call 24; refine hc.mono ?_; rintro e w2 ⟨rfl, q2, ht⟩; have HT := Lib.hid ht; clear hc ht)
    | (go_at_call 18; refine (num_any _ _).mono ?_; rintro e wn ⟨rfl, rfl⟩)
    | fail)
  go_ret
  exact ⟨rfl, q2, (Turned.of_below H.out HB1.out).trans HT.out⟩

set_option maxRecDepth 100000 in
set_option maxHeartbeats 4000000 in
theorem do_8 (_ : AppendOk) (hplc : PlaceOk) (w : World) (g : Nat) (q : Lies) (x : Acc) (op id at_ : Int) (nm : Text) (bs : List Int) (ks : Texts) (vb vk : Value) (Sb Sk : List Nat) (hin : AppIn w g q x bs vb Sb ks vk Sk nm) (hop : op = 8) :
    Calls Tryz.prog 35 #[.pointer (some ⟨g, 0, none⟩), .agg #[.int .i64 op, .int .i64 id, .int .i64 at_, .string ⟨nm.toArray⟩, vb, vk]] w (ErrOut w g q (doP x ⟨op, id, at_, nm, bs, ks⟩)) := by
  subst hop
  have hres : doP x ⟨8, id, at_, nm, bs, ks⟩ = placeP x id bs := by
    simp [doP]
  rw [hres]
  obtain ⟨Ab, cb, hvb, _, _⟩ := hin.boxes.form
  obtain ⟨Ak, ck, hvk, _, _⟩ := hin.keys.form
  subst hvb hvk
  obtain ⟨nb, hnb⟩ : ∃ nb, bs.length = nb := ⟨_, rfl⟩
  obtain ⟨nk, hnk⟩ : ∃ nk, ks.length = nk := ⟨_, rfl⟩
  obtain ⟨w1, hw1⟩ : ∃ w1 : World, w1 = w.alloc (.cells #[.int .i64 8, .int .i64 id, .int .i64 at_, .string ⟨nm.toArray⟩, .slice Ab bs.length cb, .slice Ak ks.length ck] 66) := ⟨_, rfl⟩
  have hb1 : Below w.heap.size w w1 := by rw [hw1]; exact below_alloc1 _ _
  have hc := hplc w1 g q x id bs _ Sb (hin.at_.later hb1) hin.fit (hin.boxes.below hb1) hin.nb
  rw [hw1] at hb1 hc
  rw [hnb, hnk] at hb1
  rw [hnb, hnk]
  rw [hnb, hnk] at hc
  have HB1 := Lib.hid hb1
  have H := Lib.hid hin.at_
  clear hres hb1 hin hnb hnk hw1
  go_enter Tryz.func35, Tryz.ntmps35
  go_wp2_with (first
    | (go_at_call 31; refine hc.mono ?_; rintro e w2 ⟨rfl, q2, ht⟩; have HT := Lib.hid ht; clear hc ht)
    | (go_at_call 18; refine (num_any _ _).mono ?_; rintro e wn ⟨rfl, rfl⟩)
    | fail)
  go_ret
  exact ⟨rfl, q2, (Turned.of_below H.out HB1.out).trans HT.out⟩

set_option maxRecDepth 100000 in
set_option maxHeartbeats 4000000 in
theorem do_9 (_ : AppendOk) (hplc : PlaceOk) (w : World) (g : Nat) (q : Lies) (x : Acc) (op id at_ : Int) (nm : Text) (bs : List Int) (ks : Texts) (vb vk : Value) (Sb Sk : List Nat) (hin : AppIn w g q x bs vb Sb ks vk Sk nm) (hop : op = 9) :
    Calls Tryz.prog 35 #[.pointer (some ⟨g, 0, none⟩), .agg #[.int .i64 op, .int .i64 id, .int .i64 at_, .string ⟨nm.toArray⟩, vb, vk]] w (ErrOut w g q (doP x ⟨op, id, at_, nm, bs, ks⟩)) := by
  subst hop
  have hres : doP x ⟨9, id, at_, nm, bs, ks⟩ = placeP x id bs := by
    simp [doP]
  rw [hres]
  obtain ⟨Ab, cb, hvb, _, _⟩ := hin.boxes.form
  obtain ⟨Ak, ck, hvk, _, _⟩ := hin.keys.form
  subst hvb hvk
  obtain ⟨nb, hnb⟩ : ∃ nb, bs.length = nb := ⟨_, rfl⟩
  obtain ⟨nk, hnk⟩ : ∃ nk, ks.length = nk := ⟨_, rfl⟩
  obtain ⟨w1, hw1⟩ : ∃ w1 : World, w1 = w.alloc (.cells #[.int .i64 9, .int .i64 id, .int .i64 at_, .string ⟨nm.toArray⟩, .slice Ab bs.length cb, .slice Ak ks.length ck] 66) := ⟨_, rfl⟩
  have hb1 : Below w.heap.size w w1 := by rw [hw1]; exact below_alloc1 _ _
  have hc := hplc w1 g q x id bs _ Sb (hin.at_.later hb1) hin.fit (hin.boxes.below hb1) hin.nb
  rw [hw1] at hb1 hc
  rw [hnb, hnk] at hb1
  rw [hnb, hnk]
  rw [hnb, hnk] at hc
  have HB1 := Lib.hid hb1
  have H := Lib.hid hin.at_
  clear hres hb1 hin hnb hnk hw1
  go_enter Tryz.func35, Tryz.ntmps35
  go_wp2_with (first
    | (go_at_call 31; refine hc.mono ?_; rintro e w2 ⟨rfl, q2, ht⟩; have HT := Lib.hid ht; clear hc ht)
    | (go_at_call 18; refine (num_any _ _).mono ?_; rintro e wn ⟨rfl, rfl⟩)
    | fail)
  go_ret
  exact ⟨rfl, q2, (Turned.of_below H.out HB1.out).trans HT.out⟩

set_option maxRecDepth 100000 in
set_option maxHeartbeats 4000000 in
theorem do_10 (_ : AppendOk) (_ : PlaceOk) (w : World) (g : Nat) (q : Lies) (x : Acc) (op id at_ : Int) (nm : Text) (bs : List Int) (ks : Texts) (vb vk : Value) (Sb Sk : List Nat) (hin : AppIn w g q x bs vb Sb ks vk Sk nm) (hop : op = 10) :
    Calls Tryz.prog 35 #[.pointer (some ⟨g, 0, none⟩), .agg #[.int .i64 op, .int .i64 id, .int .i64 at_, .string ⟨nm.toArray⟩, vb, vk]] w (ErrOut w g q (doP x ⟨op, id, at_, nm, bs, ks⟩)) := by
  subst hop
  have hres : doP x ⟨10, id, at_, nm, bs, ks⟩ = destroyP x id := by
    simp [doP]
  rw [hres]
  obtain ⟨Ab, cb, hvb, _, _⟩ := hin.boxes.form
  obtain ⟨Ak, ck, hvk, _, _⟩ := hin.keys.form
  subst hvb hvk
  obtain ⟨nb, hnb⟩ : ∃ nb, bs.length = nb := ⟨_, rfl⟩
  obtain ⟨nk, hnk⟩ : ∃ nk, ks.length = nk := ⟨_, rfl⟩
  obtain ⟨w1, hw1⟩ : ∃ w1 : World, w1 = w.alloc (.cells #[.int .i64 10, .int .i64 id, .int .i64 at_, .string ⟨nm.toArray⟩, .slice Ab bs.length cb, .slice Ak ks.length ck] 66) := ⟨_, rfl⟩
  have hb1 : Below w.heap.size w w1 := by rw [hw1]; exact below_alloc1 _ _
  have hc := destroy_said w1 g q x id (hin.at_.later hb1) hin.fit
  rw [hw1] at hb1 hc
  rw [hnb, hnk] at hb1
  rw [hnb, hnk]
  rw [hnb, hnk] at hc
  have HB1 := Lib.hid hb1
  have H := Lib.hid hin.at_
  clear hres hb1 hin hnb hnk hw1
  go_enter Tryz.func35, Tryz.ntmps35
  go_wp2_with (first
    | (go_at_call 28; refine hc.mono ?_; rintro e w2 ⟨rfl, q2, ht⟩; have HT := Lib.hid ht; clear hc ht)
    | (go_at_call 18; refine (num_any _ _).mono ?_; rintro e wn ⟨rfl, rfl⟩)
    | fail)
  go_ret
  exact ⟨rfl, q2, (Turned.of_below H.out HB1.out).trans HT.out⟩

set_option maxRecDepth 100000 in
set_option maxHeartbeats 4000000 in
theorem do_other (_ : AppendOk) (_ : PlaceOk) (w : World) (g : Nat) (q : Lies) (x : Acc) (op id at_ : Int) (nm : Text) (bs : List Int) (ks : Texts) (vb vk : Value) (Sb Sk : List Nat) (hin : AppIn w g q x bs vb Sb ks vk Sk nm) (h0 : ¬ op = 0) (h1 : ¬ op = 1) (h2 : ¬ op = 2) (h3 : ¬ op = 3) (h4 : ¬ op = 4) (h5 : ¬ op = 5) (h6 : ¬ op = 6) (h7 : ¬ op = 7) (h8 : ¬ op = 8) (h9 : ¬ op = 9) (h10 : ¬ op = 10) :
    Calls Tryz.prog 35 #[.pointer (some ⟨g, 0, none⟩), .agg #[.int .i64 op, .int .i64 id, .int .i64 at_, .string ⟨nm.toArray⟩, vb, vk]] w (ErrOut w g q (doP x ⟨op, id, at_, nm, bs, ks⟩)) := by
  have hres : doP x ⟨op, id, at_, nm, bs, ks⟩ = (x, 0) := by
    simp [doP, h0, h1, h2, h3, h4, h5, h6, h7, h8, h9, h10]
  rw [hres]
  obtain ⟨Ab, cb, hvb, _, _⟩ := hin.boxes.form
  obtain ⟨Ak, ck, hvk, _, _⟩ := hin.keys.form
  subst hvb hvk
  obtain ⟨nb, hnb⟩ : ∃ nb, bs.length = nb := ⟨_, rfl⟩
  obtain ⟨nk, hnk⟩ : ∃ nk, ks.length = nk := ⟨_, rfl⟩
  have e0 : (op == 0) = false := by simpa using h0
  have e1 : (op == 1) = false := by simpa using h1
  have e2 : (op == 2) = false := by simpa using h2
  have e3 : (op == 3) = false := by simpa using h3
  have e4 : (op == 4) = false := by simpa using h4
  have e5 : (op == 5) = false := by simpa using h5
  have e6 : (op == 6) = false := by simpa using h6
  have e7 : (op == 7) = false := by simpa using h7
  have e8 : (op == 8) = false := by simpa using h8
  have e9 : (op == 9) = false := by simpa using h9
  have e10 : (op == 10) = false := by simpa using h10
  obtain ⟨w1, hw1⟩ : ∃ w1 : World, w1 = w.alloc (.cells #[.int .i64 op, .int .i64 id, .int .i64 at_, .string ⟨nm.toArray⟩, .slice Ab bs.length cb, .slice Ak ks.length ck] 66) := ⟨_, rfl⟩
  have hb1 : Below w.heap.size w w1 := by rw [hw1]; exact below_alloc1 _ _
  rw [hw1] at hb1
  rw [hnb, hnk] at hb1
  rw [hnb, hnk]
  have HB1 := Lib.hid hb1
  have H := Lib.hid hin.at_
  clear hres hb1 hin hnb hnk hw1 h0 h1 h2 h3 h4 h5 h6 h7 h8 h9 h10
  go_enter Tryz.func35, Tryz.ntmps35
  go_wp2_with (first
    | fail)
  go_ret
  exact ⟨rfl, q, Turned.of_below H.out HB1.out⟩

theorem doOne_any (happ : AppendOk) (hplc : PlaceOk) (w : World) (g : Nat) (q : Lies) (x : Acc) (op id at_ : Int) (nm : Text) (bs : List Int) (ks : Texts) (vb vk : Value) (Sb Sk : List Nat) (hin : AppIn w g q x bs vb Sb ks vk Sk nm) :
    Calls Tryz.prog 35 #[.pointer (some ⟨g, 0, none⟩), .agg #[.int .i64 op, .int .i64 id, .int .i64 at_, .string ⟨nm.toArray⟩, vb, vk]] w (ErrOut w g q (doP x ⟨op, id, at_, nm, bs, ks⟩)) := by
  by_cases h0 : op = 0
  · exact do_0 happ hplc w g q x op id at_ nm bs ks vb vk Sb Sk hin h0
  by_cases h1 : op = 1
  · exact do_1 happ hplc w g q x op id at_ nm bs ks vb vk Sb Sk hin h1
  by_cases h2 : op = 2
  · exact do_2 happ hplc w g q x op id at_ nm bs ks vb vk Sb Sk hin h2
  by_cases h3 : op = 3
  · exact do_3 happ hplc w g q x op id at_ nm bs ks vb vk Sb Sk hin h3
  by_cases h4 : op = 4
  · exact do_4 happ hplc w g q x op id at_ nm bs ks vb vk Sb Sk hin h4
  by_cases h5 : op = 5
  · exact do_5 happ hplc w g q x op id at_ nm bs ks vb vk Sb Sk hin h5
  by_cases h6 : op = 6
  · exact do_6 happ hplc w g q x op id at_ nm bs ks vb vk Sb Sk hin h6
  by_cases h7 : op = 7
  · exact do_7 happ hplc w g q x op id at_ nm bs ks vb vk Sb Sk hin h7
  by_cases h8 : op = 8
  · exact do_8 happ hplc w g q x op id at_ nm bs ks vb vk Sb Sk hin h8
  by_cases h9 : op = 9
  · exact do_9 happ hplc w g q x op id at_ nm bs ks vb vk Sb Sk hin h9
  by_cases h10 : op = 10
  · exact do_10 happ hplc w g q x op id at_ nm bs ks vb vk Sb Sk hin h10
  exact do_other happ hplc w g q x op id at_ nm bs ks vb vk Sb Sk hin h0 h1 h2 h3 h4 h5 h6 h7 h8 h9 h10

end Go.Proofs.YtmbibhphpjmboaaGreatDoor

namespace Go.Proofs.YtmbibhphpjmboaaGreatDoor

theorem doP_fit {x : Acc} (h : Fit x) (a : ActP) : Fit (doP x a).1 := by
  unfold doP
  split
  · exact makeP_fit rightU (fun _ h => rightU_len h) h _ _
  split
  · exact renameP_fit rightU (fun _ h => rightU_len h) h _ _ _
  split
  · exact dropP_fit h _
  split
  · exact appendP_fit headF h _ _ _ _ (keysF_le _)
  split
  · exact keysP_fit h _ _ (keysF_le _)
  split
  · exact placeP_fit h _ _
  split
  · exact destroyP_fit h _
  · exact h
theorem doP_step (x : Acc) (a : ActP) : Stepped x (doP x a).1 (doP x a).2 := by
  unfold doP
  split
  · exact makeP_step rightU x _ _
  split
  · exact renameP_step rightU x _ _ _
  split
  · exact dropP_step x _
  split
  · exact appendP_step headF x _ _ _ _
  split
  · exact keysP_step x _ _
  split
  · exact placeP_step x _ _
  split
  · exact destroyP_step x _
  · exact .inl rfl
theorem doP_evo {x : Acc} (h : Fit x) (a : ActP) : Evo x (doP x a).1 := by
  unfold doP
  split
  · exact makeP_evo rightU x _ _
  split
  · exact renameP_evo rightU (fun _ h => rightU_len h) h _ _ _
  split
  · exact dropP_evo h _
  split
  · exact appendP_evo headF h _ _ _ _
  split
  · exact keysP_evo h _ _
  split
  · exact placeP_evo h _ _
  split
  · exact destroyP_evo h _
  · exact Evo.refl x
theorem doP_logs {x : Acc} {n : Nat} (h : LogFit x n) (hf : Fit x) (hn : n < 60) (a : ActP) : LogStep x (doP x a).1 n := by
  unfold doP
  split
  · exact makeP_logs rightU h hf hn _ _
  split
  · exact renameP_logs rightU h hf hn _ _ _
  split
  · exact dropP_logs h hf hn _
  split
  · exact appendP_logs headF h hf hn _ _ _ _
  split
  · exact keysP_logs h hf hn _ _
  split
  · exact placeP_logs h hf hn _ _
  split
  · exact destroyP_logs h hf hn _
  · exact logStep_same h hf

/-- An act that is too great; acts that are not played. -/
def greatA (a : ActP) : Bool := decide (500 < a.name.length) || decide (20 < a.boxes.length) || decide (40 < a.keys.length) || a.keys.any fun k => decide (100 < k.length)
def heavyL (l : List ActP) : Bool := (l.take 60).any greatA || decide (60 < l.length)
theorem heavyL_no {l : List ActP} (h : heavyL l = false) : l.length ≤ 60 ∧ ∀ a ∈ l, a.name.length ≤ 500 ∧ a.boxes.length ≤ 20 ∧ a.keys.length ≤ 40 ∧ ∀ k ∈ a.keys, k.length ≤ 100 := by
  unfold heavyL at h
  rw [Bool.or_eq_false_iff] at h
  obtain ⟨h1, h2⟩ := h
  have hl : l.length ≤ 60 := by simpa using h2
  refine ⟨hl, fun a ha => ?_⟩
  rw [List.take_of_length_le hl] at h1
  have h3 := List.any_eq_false.1 h1 a ha
  unfold greatA at h3
  simp only [Bool.or_eq_true, decide_eq_true_eq, List.any_eq_true, not_or, not_exists, not_and] at h3
  obtain ⟨⟨⟨a1, a2⟩, a3⟩, a4⟩ := h3
  exact ⟨by omega, by omega, by omega, fun k hk => by have := a4 k hk; omega⟩

end Go.Proofs.YtmbibhphpjmboaaGreatDoor

namespace Go.Proofs.YtmbibhphpjmboaaGreatDoor
open Go.ChangeShapes Go.WideShapes Go.ChangeAt Go.RowKit

theorem spotNone6 {w : World} {a : Addr} {u : Value} (h : w.cell? (a.add 0) = some u) : a.spot = none := by
  have e : a.add 0 = a := by unfold Addr.add; simp
  rw [e] at h
  unfold World.cell? at h
  split at h
  · cases hs : a.spot with
    | none => rfl
    | some q => simp [hs] at h
  · cases h

/-- An act in memory. -/
structure ActM where
  p : ActP
  vb : Value
  vk : Value
instance : Inhabited ActM := ⟨⟨⟨0, 0, 0, [], [], []⟩, .slice none 0 0, .slice none 0 0⟩⟩
def encAct (a : ActM) : List Value := [.int .i64 a.p.op, .int .i64 a.p.id, .int .i64 a.p.at_, .string ⟨a.p.name.toArray⟩, a.vb, a.vk]
theorem encAct_length (a : ActM) : (encAct a).length = 6 := rfl
def ActR (w : World) (a : ActM) : Prop := RdS w [] 1 a.vb a.p.boxes.length (a.p.boxes.map encI) ∧ RdS w [] 1 a.vk a.p.keys.length (a.p.keys.map encStr)

section
variable {H : Type} {enc : TypeId × Value → H} {P : Program} {w : World} {base : Nat} {spare : Nat → Bool} {held : Bool}

/-- A slice of elements of so many cells. -/
theorem groups_in {α : Type} [Inhabited α] (encA : α → List Value) (Q : α → Prop) {size : Nat} (hpos : 0 < size) (hA : ∀ a, (encA a).length = size) {t e : TypeId} (ht : P.underlying t = some (.slice e)) (ce : P.cellsOf e = size)
    (hdec : ∀ (n : Nat) (cs : List Value) (x : DataW H × List MemPlace), cs.length = size → DataW.trod enc P w base spare held n e cs = some x → ∃ y, cs = encA y ∧ Q y)
    {fuel : Nat} {v : Value} {x : DataW H × List MemPlace} (h : DataW.trod enc P w base spare held fuel t [v] = some x) : ∃ (l : List α), RdS w [] size v l.length (flatG encA l) ∧ ∀ y ∈ l, Q y := by
  rcases Deep.open_slice ht h with ⟨hcs, _⟩ | ⟨a, len, cap, m, n, D, Pl, hcs, _, hl, hm, hmm, _, hx⟩
  · simp at hcs
    subst hcs
    exact ⟨[], ⟨by simp [flatG], .inl ⟨rfl, rfl⟩⟩, by simp⟩
  · simp at hcs
    subst hcs
    have hle : len ≤ m := by
      rw [hmm]
      split <;> omega
    have hb : ∀ i, i < len → ∃ y : α, (∀ j, j < size → w.cell? (a.add (i * size + j)) = (encA y)[j]?) ∧ Q y := fun i hi => by
      obtain ⟨cs, h1, h2⟩ := hx i (by omega)
      rw [ce] at h1
      obtain ⟨_, hlen, hcell⟩ := World.cells?_some h1
      obtain ⟨y, rfl, hq⟩ := hdec n cs _ hlen h2
      refine ⟨y, fun j hj => ?_, hq⟩
      have h3 := hcell j hj
      rw [Deep.add_add] at h3
      exact h3
    let f : Nat → α := fun i => if hi : i < len then (hb i hi).choose else default
    have hf : ∀ i (hi : i < len), f i = (hb i hi).choose := fun i hi => by simp only [f, dif_pos hi]
    have hlen : ((List.range len).map f).length = len := by simp
    refine ⟨(List.range len).map f, ⟨by rw [flatG_length hA], .inr ⟨a, cap, by rw [hlen], by rw [hlen]; exact hl, hm, fun hp => ?_⟩⟩, fun y hy => ?_⟩
    · rw [hlen] at hp ⊢
      have hcell : ∀ j, j < len * size → w.cell? (a.add j) = (flatG encA ((List.range len).map f))[j]? := fun j hj => by
        have hi : j / size < len := (Nat.div_lt_iff_lt_mul hpos).2 hj
        have hm2 : j % size < size := Nat.mod_lt _ hpos
        have h1 := (hb (j / size) hi).choose_spec.1 (j % size) hm2
        have h2 := flatG_get hA ((List.range len).map f) (j / size) (j % size) (by rw [hlen]; exact hi) hm2
        have h3 : j / size * size + j % size = j := by
          rw [Nat.mul_comm]
          exact Nat.div_add_mod j size
        rw [h3] at h1 h2
        rw [h1, h2]
        simp only [List.getElem_map, List.getElem_range]
        rw [← hf _ hi]
      have hls : 0 < len * size := Nat.mul_pos hp hpos
      have h0 := hcell 0 hls
      have hne : (flatG encA ((List.range len).map f))[0]? ≠ none := by
        rw [Ne, List.getElem?_eq_none_iff, flatG_length hA, hlen]
        omega
      obtain ⟨u, hu⟩ := Option.ne_none_iff_exists'.1 hne
      rw [hu] at h0
      have hspot : a.spot = none := spotNone6 h0
      obtain ⟨b, off, sp⟩ := a
      simp only at hspot
      subst hspot
      have := World.block_lt_of_cell? w _ h0
      rw [Addr.add_lit] at this
      refine ⟨rfl, this, by simp, fun j hj => ?_⟩
      have h3 := hcell j hj
      rw [Addr.add_lit] at h3
      exact h3
    · obtain ⟨i, hi, rfl⟩ := List.mem_map.1 hy
      have hi' := List.mem_range.1 hi
      rw [hf i hi']
      exact (hb i hi').choose_spec.2
theorem flatG_map {α : Type} (f : α → Value) (l : List α) : flatG (fun a => [f a]) l = l.map f := by
  induction l with
  | nil => rfl
  | cons a r ih =>
    rw [flatG_cons, ih]
    rfl
/-- A slice of numbers. -/
theorem ints_in6 {t e : TypeId} (ht : P.underlying t = some (.slice e)) (he : P.underlying e = some (.int .i64)) (ce : P.cellsOf e = 1) {fuel : Nat} {v : Value} {x : DataW H × List MemPlace} (h : DataW.trod enc P w base spare held fuel t [v] = some x) : ∃ l : List Int, RdS w [] 1 v l.length (l.map encI) := by
  obtain ⟨l, h1, _⟩ := groups_in (size := 1) (fun y : Int => [encI y]) (fun _ => True) (by omega) (fun _ => rfl) ht ce (fun n cs x hl h2 => by
    match cs, hl with
    | [u], _ =>
      obtain ⟨y, h3, _, _⟩ := DataW.trod_int he h2
      simp at h3
      exact ⟨y, by rw [h3], trivial⟩) h
  rw [flatG_map] at h1
  exact ⟨l, h1⟩
/-- A slice of texts. -/
theorem strs_in6 {t e : TypeId} (ht : P.underlying t = some (.slice e)) (he : P.underlying e = some .string) (ce : P.cellsOf e = 1) {fuel : Nat} {v : Value} {x : DataW H × List MemPlace} (h : DataW.trod enc P w base spare held fuel t [v] = some x) : ∃ l : Texts, RdS w [] 1 v l.length (l.map encStr) := by
  obtain ⟨l, h1, _⟩ := groups_in (size := 1) (fun y : List UInt8 => [encStr y]) (fun _ => True) (by omega) (fun _ => rfl) ht ce (fun n cs x hl h2 => by
    match cs, hl with
    | [u], _ =>
      obtain ⟨b, h3, _⟩ := DataW.trod_string he h2
      simp at h3
      exact ⟨b.data.toList, by rw [h3], trivial⟩) h
  rw [flatG_map] at h1
  exact ⟨l, h1⟩
/-- One act. -/
theorem act_in {e tb tk eb ek : TypeId} {f0 f1 f2 f3 f4 f5 : Field} {n : Nat} {cs : List Value} {x : DataW H × List MemPlace} (he : P.underlying e = some (.struct #[f0, f1, f2, f3, f4, f5])) (hlen : cs.length = 6)
    (o : (f0.offset = 0 ∧ f1.offset = 1 ∧ f2.offset = 2 ∧ f3.offset = 3 ∧ f4.offset = 4 ∧ f5.offset = 5) ∧ (P.cellsOf f0.type = 1 ∧ P.cellsOf f1.type = 1 ∧ P.cellsOf f2.type = 1 ∧ P.cellsOf f3.type = 1 ∧ P.cellsOf f4.type = 1 ∧ P.cellsOf f5.type = 1))
    (u0 : P.underlying f0.type = some (.int .i64)) (u1 : P.underlying f1.type = some (.int .i64)) (u2 : P.underlying f2.type = some (.int .i64)) (u3 : P.underlying f3.type = some .string) (e4 : f4.type = tb) (e5 : f5.type = tk)
    (htb : P.underlying tb = some (.slice eb)) (heb : P.underlying eb = some (.int .i64)) (ceb : P.cellsOf eb = 1) (htk : P.underlying tk = some (.slice ek)) (hek : P.underlying ek = some .string) (cek : P.cellsOf ek = 1)
    (h : DataW.trod enc P w base spare held n e cs = some x) : ∃ y : ActM, cs = encAct y ∧ ActR w y := by
  obtain ⟨⟨o0, o1, o2, o3, o4, o5⟩, c0, c1, c2, c3, c4, c5⟩ := o
  obtain ⟨xs, k, hk, hxy, _, hxl, hf⟩ := DataW.trod_struct he h
  match cs, hlen with
  | [v0, v1, v2, v3, v4, v5], _ =>
    have g0 := hf 0 f0 rfl
    have g1 := hf 1 f1 rfl
    have g2 := hf 2 f2 rfl
    have g3 := hf 3 f3 rfl
    have g4 := hf 4 f4 rfl
    have g5 := hf 5 f5 rfl
    match xs, hxl with
    | [y0, y1, y2, y3, y4, y5], _ =>
      simp [o0, o1, o2, o3, o4, o5, c0, c1, c2, c3, c4, c5] at g0 g1 g2 g3 g4 g5
      obtain ⟨a0, e0, _, _⟩ := DataW.trod_int u0 g0
      obtain ⟨a1, e1, _, _⟩ := DataW.trod_int u1 g1
      obtain ⟨a2, e2, _, _⟩ := DataW.trod_int u2 g2
      obtain ⟨b3, e3, _⟩ := DataW.trod_string u3 g3
      rw [e4] at g4
      rw [e5] at g5
      obtain ⟨bs, h4⟩ := ints_in6 htb heb ceb g4
      obtain ⟨ks, h5⟩ := strs_in6 htk hek cek g5
      simp at e0 e1 e2 e3
      exact ⟨⟨⟨a0, a1, a2, b3.data.toList, bs, ks⟩, v4, v5⟩, by simp [encAct, e0, e1, e2, e3], h4, h5⟩
end

/-- A list of acts that came in. -/
theorem acts_in {H : Type} {enc : TypeId × Value → H} {w : World} {base : Nat} {spare : Nat → Bool} {held : Bool} {fuel : Nat} {v : Value} {x : DataW H × List MemPlace} (h : DataW.trod enc Tryz.prog w base spare held fuel 61 [v] = some x) :
    ∃ l : List ActM, RdS w [] 6 v l.length (flatG encAct l) ∧ ∀ a ∈ l, ActR w a :=
  groups_in encAct (ActR w) (by omega) encAct_length Tryz.underlying61 (by kernel_rfl) (fun n cs x hl h2 =>
    act_in Tryz.underlying66 hl ⟨⟨rfl, rfl, rfl, rfl, rfl, rfl⟩, by kernel_rfl, by kernel_rfl, by kernel_rfl, by kernel_rfl, by kernel_rfl, by kernel_rfl⟩
      Tryz.underlying3 Tryz.underlying3 Tryz.underlying3 Tryz.underlying9 rfl rfl Tryz.underlying32 Tryz.underlying3 (by kernel_rfl) Tryz.underlying37 Tryz.underlying9 (by kernel_rfl) h2) h

end Go.Proofs.YtmbibhphpjmboaaGreatDoor
