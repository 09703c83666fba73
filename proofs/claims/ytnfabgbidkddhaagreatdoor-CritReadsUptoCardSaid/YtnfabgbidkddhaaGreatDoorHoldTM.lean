/-
  The walk of seek's holds and Holds for every kind of term: printed by gen_holdt.py out of the walks for terms without texts.
-/
import Derived.Test.YtnfabgbidkddhaaGreatDoorHoldsWM
import Derived.Test.YtnfabgbidkddhaaGreatDoorHoldFM
namespace Go.Proofs.YtnfabgbidkddhaaGreatDoor
open Go.RowKit
attribute [local go_sem ↓] Go.wp_at_zero Go.wp_at_succ

def holdsT (e : Em) (f : Out) : Nat → Nat → Bool
  | 0, _ => false
  | n + 1, i => match f[i]? with
    | none => false
    | some t =>
      if t.kind = 1 then t.kids.all fun k => holdsT e f n k.toNat
      else if t.kind = 2 then t.kids.any fun k => holdsT e f n k.toNat
      else if t.kind = 3 then !(t.kids.any fun k => holdsT e f n k.toNat)
      else if t.kind = 4 then e.mem.any fun m => (m.1 == t.n) != false
      else if t.kind = 5 then e.mem.any fun m => (m.1 == t.n) != true
      else if t.kind = 6 then e.keys.any fun k => k == t.text
      else if t.kind = 7 then decide (e.sec < t.n)
      else if t.kind = 8 then decide (t.n ≤ e.sec)
      else if t.kind = 9 then decide (t.n ≤ (e.text.length : Nat))
      else if t.kind = 10 then decide (((e.text.length : Nat) : Int) < t.n)
      else if t.kind = 14 then e.mem.any fun m => m.1 == t.n && inL t.set m.2
      else if t.kind = 15 then decide (t.n ≤ e.mod)
      else if t.kind = 11 then tinB ⟨(bodyL e).toArray⟩ t.text || (splitF e.text).1.any fun x => tinB ⟨x.2.toArray⟩ t.text
      else if t.kind = 12 then (splitF e.text).1.any fun x => hdB x t.name t.text
      else if t.kind = 13 then tinB ⟨(bodyL e).toArray⟩ t.text
      else false
/-- Terms of the kinds that are known here; kids below. -/
def goodU (i : Nat) (t : Tm) : Bool := (t.kind == 1 || t.kind == 2 || t.kind == 3 || t.kind == 4 || t.kind == 5 || t.kind == 6 || t.kind == 7 || t.kind == 8 || t.kind == 9 || t.kind == 10 || t.kind == 14 || t.kind == 15 || t.kind == 11 || t.kind == 12 || t.kind == 13) && t.kids.all fun k => decide (0 ≤ k) && decide (k < i)
def goodUF (f : Out) : Bool := (List.range f.length).all fun i => match f[i]? with
  | none => false
  | some t => goodU i t
theorem goodUF_at {f : Out} (h : goodUF f = true) (i : Nat) (hi : i < f.length) : goodU i f[i] = true := by
  unfold goodUF at h
  have h1 := List.all_eq_true.1 h i (List.mem_range.2 hi)
  rw [List.getElem?_eq_getElem hi] at h1
  exact h1

/-- The contract of holds, of places below n. -/
def HoldRecT (n : Nat) : Prop := ∀ (w : World) (g : Nat) (v : Value) (e : Em) (f : Out) (i : Nat), EmAt w g e → FAt w v f → goodUF f = true → i < f.length → i < n → f.length ≤ 1000 → Mx w → e.text.length ≤ 2147483648 → (∀ t ∈ f, t.text.size ≤ 4294967280 ∧ t.name.size ≤ 4294967280) →
  Calls Tryz.prog 24 #[.pointer (some ⟨g, 0, none⟩), v, .int .i64 (i : Nat)] w fun en w' => en = .returned (.bool (holdsT e f n i)) ∧ Below w.heap.size w w'

set_option maxRecDepth 100000 in
theorem kid_anyT {n : Nat} (hr : HoldRecT n) (w : World) (g b3 b4 : Nat) (v : Value) (e : Em) (f : Out) (k : Int) (he : EmAt w g e) (hf : FAt w v f) (hg : goodUF f = true) (hk0 : 0 ≤ k) (hk1 : k.toNat < f.length) (hk2 : k.toNat < n) (hl : f.length ≤ 1000) (hm : Mx w) (htx : e.text.length ≤ 2147483648) (hts : ∀ t ∈ f, t.text.size ≤ 4294967280 ∧ t.name.size ≤ 4294967280)
    (h3 : Blk w b3 71 #[.pointer (some ⟨g, 0, none⟩)]) (h4 : Blk w b4 27 #[v]) :
    Calls Tryz.prog 31 #[.int .i64 k, .pointer (some ⟨b3, 0, none⟩), .pointer (some ⟨b4, 0, none⟩)] w fun en w' => en = .returned (.bool (holdsT e f n k.toNat)) ∧ Below w.heap.size w w' := by
  have hc := hr w g v e f k.toNat he hf hg hk1 hk2 hl hm htx hts
  have hkk : ((k.toNat : Nat) : Int) = k := by omega
  rw [hkk] at hc
  obtain ⟨A, cap, rfl, _, _⟩ := hf.form
  have e3 : w.cell? ⟨b3, 0, none⟩ = some (.pointer (some ⟨g, 0, none⟩)) := h3.cell 0
  have e4 : w.cell? ⟨b4, 0, none⟩ = some (.slice A f.length cap) := h4.cell 0
  generalize f.length = N at *
  clear hr he hf hg hm htx hts h3 h4 hkk
  go_enter Tryz.func31, Tryz.ntmps31
  go_wp2_with (first
    | (go_at_call 24; refine hc.mono ?_; rintro en w2 ⟨rfl, hb2⟩; have HB2 := Lib.hid hb2; clear hb2 hc)
    | fail)
  go_ret
  exact ⟨rfl, HB2.out⟩
set_option maxRecDepth 100000 in
theorem kidN_anyT {n : Nat} (hr : HoldRecT n) (w : World) (g b3 b4 b8 : Nat) (v : Value) (e : Em) (f : Out) (k : Int) (he : EmAt w g e) (hf : FAt w v f) (hg : goodUF f = true) (hk0 : 0 ≤ k) (hk1 : k.toNat < f.length) (hk2 : k.toNat < n) (hl : f.length ≤ 1000) (hm : Mx w) (htx : e.text.length ≤ 2147483648) (hts : ∀ t ∈ f, t.text.size ≤ 4294967280 ∧ t.name.size ≤ 4294967280)
    (h3 : Blk w b3 71 #[.pointer (some ⟨g, 0, none⟩)]) (h4 : Blk w b4 27 #[v]) (h8 : Blk w b8 84 #[.func (.func 31) #[] #[.pointer (some ⟨b3, 0, none⟩), .pointer (some ⟨b4, 0, none⟩)]]) :
    Calls Tryz.prog 33 #[.int .i64 k, .pointer (some ⟨b8, 0, none⟩)] w fun en w' => en = .returned (.bool (!holdsT e f n k.toNat)) ∧ Below w.heap.size w w' := by
  have hc := kid_anyT hr w g b3 b4 v e f k he hf hg hk0 hk1 hk2 hl hm htx hts h3 h4
  have e8 : w.cell? ⟨b8, 0, none⟩ = some (.func (.func 31) #[] #[.pointer (some ⟨b3, 0, none⟩), .pointer (some ⟨b4, 0, none⟩)]) := h8.cell 0
  clear hr he hf hg hm htx hts h3 h4 h8
  go_enter Tryz.func33, Tryz.ntmps33
  go_wp2_with (first
    | (go_at_call 31; refine hc.mono ?_; rintro en w2 ⟨rfl, hb2⟩; have HB2 := Lib.hid hb2; clear hb2 hc)
    | fail)
  go_ret
  exact ⟨rfl, HB2.out⟩

set_option maxRecDepth 100000 in
set_option maxHeartbeats 8000000 in
theorem holds_stepT {n : Nat} (hr : HoldRecT n) : HoldRecT (n + 1) := by
  intro w g v e f i he hf hg hi hin hl hm htx hts
  obtain ⟨b, off, cap, sv, kv, F, hv, hbl, d0, d1, d2, d3, d4, d5, hok⟩ := hf.at_ i hi
  have hgt := goodUF_at hg i hi
  have hans : holdsT e f (n + 1) i = (if f[i].kind = 1 then f[i].kids.all fun k => holdsT e f n k.toNat
      else if f[i].kind = 2 then f[i].kids.any fun k => holdsT e f n k.toNat
      else if f[i].kind = 3 then !(f[i].kids.any fun k => holdsT e f n k.toNat)
      else if f[i].kind = 4 then e.mem.any fun m => (m.1 == f[i].n) != false
      else if f[i].kind = 5 then e.mem.any fun m => (m.1 == f[i].n) != true
      else if f[i].kind = 6 then e.keys.any fun k => k == f[i].text
      else if f[i].kind = 7 then decide (e.sec < f[i].n)
      else if f[i].kind = 8 then decide (f[i].n ≤ e.sec)
      else if f[i].kind = 9 then decide (f[i].n ≤ (e.text.length : Nat))
      else if f[i].kind = 10 then decide (((e.text.length : Nat) : Int) < f[i].n)
      else if f[i].kind = 14 then e.mem.any fun m => m.1 == f[i].n && inL f[i].set m.2
      else if f[i].kind = 15 then decide (f[i].n ≤ e.mod)
      else if f[i].kind = 11 then tinB ⟨(bodyL e).toArray⟩ f[i].text || (splitF e.text).1.any fun x => tinB ⟨x.2.toArray⟩ f[i].text
      else if f[i].kind = 12 then (splitF e.text).1.any fun x => hdB x f[i].name f[i].text
      else if f[i].kind = 13 then tinB ⟨(bodyL e).toArray⟩ f[i].text
      else false) := by
    show (match f[i]? with | none => false | some t => _) = _
    rw [List.getElem?_eq_getElem hi]
  have htt := hts f[i] (List.getElem_mem hi)
  obtain ⟨t, ht⟩ : ∃ t, f[i] = t := ⟨_, rfl⟩
  rw [ht] at htt
  rw [ht] at d0 d1 d2 d3 hok hgt hans
  rw [hans]
  clear hans ht
  obtain ⟨hsk, hkd, _⟩ := hok.kids
  obtain ⟨Ak, ck, hkv, _, _⟩ := hkd.form
  obtain ⟨_, hsd⟩ := hok.set
  obtain ⟨As, cs, hsv, _, _⟩ := hsd.form
  have hrs := hsd.reads [] (by simp)
  have hrk := hkd.reads [] (by simp)
  obtain ⟨tk, tn, tm, tx, ts, tl⟩ := t
  simp only at d0 d1 d2 d3 hkv hsv hrk hrs htt ⊢
  rw [hkv] at d5 hrk
  rw [hsv] at d4 hrs
  simp only [goodU, Bool.and_eq_true, Bool.or_eq_true, beq_iff_eq, List.all_eq_true, decide_eq_true_eq] at hgt
  obtain ⟨hkind, hkb⟩ := hgt
  have he0 := he
  obtain ⟨eid, th, born, ekv, emv, efv, eAk, eAm, eck, ecm, hE, hek, hem, hrk2, hrm2, hrf2⟩ := he0
  have E0 : w.cell? ⟨g, 3, none⟩ = some (.int .i64 e.sec) := hE.cell 3
  have E1 : w.cell? ⟨g, 4, none⟩ = some ekv := hE.cell 4
  have E2 : w.cell? ⟨g, 2, none⟩ = some (.string ⟨e.text.toArray⟩) := hE.cell 2
  have E5 : w.cell? ⟨g, 5, none⟩ = some emv := hE.cell 5
  have E6 : w.cell? ⟨g, 6, none⟩ = some (.int .i64 e.mod) := hE.cell 6
  have E8 : w.cell? ⟨g, 8, none⟩ = some efv := hE.cell 8
  have E9 : w.cell? ⟨g, 9, none⟩ = some (.string ⟨(bodyL e).toArray⟩) := hE.cell 9
  have hgl := hE.lt
  rw [hek] at E1 hrk2
  obtain ⟨N, hN⟩ : ∃ N, f.length = N := ⟨_, rfl⟩
  obtain ⟨K, hK⟩ : ∃ K, tl.length = K := ⟨_, rfl⟩
  obtain ⟨SL, hSL⟩ : ∃ SL, ts.length = SL := ⟨_, rfl⟩
  rw [hK] at d5
  rw [hSL] at d4
  rw [hN] at hv
  -- the world behind the first lines
  obtain ⟨W, hW⟩ : ∃ W, (((w.alloc (.cells #[.pointer (some ⟨g, 0, none⟩)] 71)).alloc (.cells #[v] 27)).alloc (.cells #[.int .i64 tk, .int .i64 tn, .string tm, .string tx, .slice As SL cs, .slice Ak K ck] 57)).alloc (.cells #[.func (.func 31) #[] #[.pointer (some ⟨w.heap.size, 0, none⟩), .pointer (some ⟨w.heap.size + 1, 0, none⟩)]] 84) = W := ⟨_, rfl⟩
  have B3 : Blk W w.heap.size 71 #[.pointer (some ⟨g, 0, none⟩)] := by rw [← hW]; exact (((Blk.new w _ _).alloc _).alloc _).alloc _
  have B4 : Blk W (w.heap.size + 1) 27 #[v] := by
    rw [← hW]
    exact ((blk_new2 w _ _ _).alloc _).alloc _
  have B7 : Blk W (w.heap.size + 1 + 1) 57 #[.int .i64 tk, .int .i64 tn, .string tm, .string tx, .slice As SL cs, .slice Ak K ck] := by
    rw [← hW]
    have h := Blk.new ((w.alloc (.cells #[.pointer (some ⟨g, 0, none⟩)] 71)).alloc (.cells #[v] 27)) 57 #[.int .i64 tk, .int .i64 tn, .string tm, .string tx, .slice As SL cs, .slice Ak K ck]
    have h2 := h.alloc (.cells #[.func (.func 31) #[] #[.pointer (some ⟨w.heap.size, 0, none⟩), .pointer (some ⟨w.heap.size + 1, 0, none⟩)]] 84)
    simpa using h2
  have B8 : Blk W (w.heap.size + 1 + 1 + 1) 84 #[.func (.func 31) #[] #[.pointer (some ⟨w.heap.size, 0, none⟩), .pointer (some ⟨w.heap.size + 1, 0, none⟩)]] := by
    rw [← hW]
    have h := Blk.new (((w.alloc (.cells #[.pointer (some ⟨g, 0, none⟩)] 71)).alloc (.cells #[v] 27)).alloc (.cells #[.int .i64 tk, .int .i64 tn, .string tm, .string tx, .slice As SL cs, .slice Ak K ck] 57)) 84 #[.func (.func 31) #[] #[.pointer (some ⟨w.heap.size, 0, none⟩), .pointer (some ⟨w.heap.size + 1, 0, none⟩)]]
    simpa using h
  have hbW : Below w.heap.size w W := by
    rw [← hW]
    exact ((((Below.refl _ _).alloc (Nat.le_refl _) _).alloc (by simp) _).alloc (by simp; omega) _).alloc (by simp; omega) _
  have heW := he.below hbW
  have hfW := hf.below hbW
  have hrkW := hrk.below hbW
  have hrk2W := hrk2.below hbW
  have hrm2W := hrm2.below hbW
  have hrsW := hrs.below hbW
  have hEW := hE.below hbW hE.lt
  have hp1 : ∀ x ∈ tl, ∀ W', Below W.heap.size W W' → Calls Tryz.prog 31 (#[.int .i64 x] ++ #[.pointer (some ⟨w.heap.size, 0, none⟩), .pointer (some ⟨w.heap.size + 1, 0, none⟩)]) W' fun en W2 => en = .returned (.bool (holdsT e f n x.toNat)) ∧ Below W'.heap.size W' W2 := by
    intro x hx W' hb
    have hkx := hkb x hx
    exact kid_anyT hr W' g _ _ v e f x (heW.below hb) (hfW.below hb) hg hkx.1 (by omega) (by omega) hl ((hm.below hbW).below hb) htx hts (B3.below hb B3.lt) (B4.below hb B4.lt)
  have hp2 : ∀ x ∈ tl, ∀ W', Below W.heap.size W W' → Calls Tryz.prog 33 (#[.int .i64 x] ++ #[.pointer (some ⟨w.heap.size + 1 + 1 + 1, 0, none⟩)]) W' fun en W2 => en = .returned (.bool (!holdsT e f n x.toNat)) ∧ Below W'.heap.size W' W2 := by
    intro x hx W' hb
    have hkx := hkb x hx
    exact kidN_anyT hr W' g _ _ _ v e f x (heW.below hb) (hfW.below hb) hg hkx.1 (by omega) (by omega) hl ((hm.below hbW).below hb) htx hts (B3.below hb B3.lt) (B4.below hb B4.lt) (B8.below hb B8.lt)
  have ha1 := hasI_any W _ tl hrkW 31 #[.pointer (some ⟨w.heap.size, 0, none⟩), .pointer (some ⟨w.heap.size + 1, 0, none⟩)] (fun x => holdsT e f n x.toNat) (enters_of Tryz.func31 (by kernel_rfl) rfl) hp1
  have ha2 := hasI_any W _ tl hrkW 33 #[.pointer (some ⟨w.heap.size + 1 + 1 + 1, 0, none⟩)] (fun x => !holdsT e f n x.toNat) (enters_of Tryz.func33 (by kernel_rfl) rfl) hp2
  have ha3 := hasT_any W.drew _ e.keys (hrk2W.below (below_drew1 W)) tx
  rw [hem] at hrm2W E5 hEW
  have E5W : W.cell? ⟨g, 5, none⟩ = some (.slice eAm e.mem.length ecm) := (hbW.cell (p := ⟨g, 5, none⟩) hgl).trans E5
  have ha4 := fun ot (W' : World) (hb : Below W.heap.size W W') => inside_anyH W' g _ _ e.mem tn ot (hEW.below hb hEW.lt) ((hb.cell (p := ⟨g, 5, none⟩) hEW.lt).trans E5W) (hrm2W.below hb)
  have ha5 := fun (W' : World) (hb : Below W.heap.size W W') => within_anyH W' g _ _ _ e.mem ts tn (hEW.below hb hEW.lt) ((hb.cell (p := ⟨g, 5, none⟩) hEW.lt).trans E5W) (hrm2W.below hb) (hrsW.below hb)
  have hmW := hm.below hbW
  have hrfW := hrf2.below hbW
  have hsz := splitF_sizes e.text
  have hbl : (bodyL e).length ≤ e.text.length := by unfold bodyL; simp
  have ha6 := fun (W' : World) (hb : Below W.heap.size W W') => tin_any W' ⟨(bodyL e).toArray⟩ tx (by simp [ByteArray.size]; omega) htt.1 (hmW.below hb)
  have ha7 := fun (W' : World) (hb : Below W.heap.size W W') => hasF_any W' efv (splitF e.text).1 (hrfW.below hb) 38 #[.pointer (some ⟨w.heap.size + 1 + 1, 0, none⟩)] (fun x => tinB ⟨x.2.toArray⟩ tx) (enters_of Tryz.func38 (by kernel_rfl) rfl)
    (fun x hx V hv => fieldTx_any V _ _ tx (B7.below (hb.trans (hv.mono hb.size)) B7.lt) ((B7.below (hb.trans (hv.mono hb.size)) B7.lt).cell 3) x (by have := (hsz x hx).2; omega) htt.1 (hmW.below (hb.trans (hv.mono hb.size))))
  have ha8 := fun (W' : World) (hb : Below W.heap.size W W') => hasF_any W' efv (splitF e.text).1 (hrfW.below hb) 39 #[.pointer (some ⟨w.heap.size + 1 + 1, 0, none⟩)] (fun x => hdB x tm tx) (enters_of Tryz.func39 (by kernel_rfl) rfl)
    (fun x hx V hv => fieldHd_any V _ _ tm tx (B7.below (hb.trans (hv.mono hb.size)) B7.lt) ((B7.below (hb.trans (hv.mono hb.size)) B7.lt).cell 2) ((B7.below (hb.trans (hv.mono hb.size)) B7.lt).cell 3) x (by have := (hsz x hx).1; omega) (by have := (hsz x hx).2; omega) htt.2 htt.1 (hmW.below (hb.trans (hv.mono hb.size))))
  obtain ⟨Af, cf, hfv, _, _⟩ := hrf2.form
  rw [hfv] at ha7 ha8 E8
  rw [hK] at ha1 ha2
  rw [hSL] at ha5
  have HBW := Lib.hid hbW
  have hall : (tl.all fun k => holdsT e f n k.toNat) = !(tl.any fun k => !holdsT e f n k.toNat) := by rw [List.all_eq_not_any_not]
  rw [hall]
  generalize (tl.any fun k => !holdsT e f n k.toNat) = a2 at ha2 ⊢
  generalize (tl.any fun k => holdsT e f n k.toNat) = a1 at ha1 ⊢
  generalize (e.keys.any fun k => k == tx) = a3 at ha3 ⊢
  obtain ⟨a4, hx4⟩ : ∃ a4, (fun ot => e.mem.any fun m => (m.1 == tn) != ot) = a4 := ⟨_, rfl⟩
  have hx4t : (e.mem.any fun m => (m.1 == tn) != true) = a4 true := by rw [← hx4]
  have hx4f : (e.mem.any fun m => (m.1 == tn) != false) = a4 false := by rw [← hx4]
  rw [hx4t, hx4f]
  have ha4 : ∀ ot (W' : World), Below W.heap.size W W' → Calls Tryz.prog 34 #[.pointer (some ⟨g, 0, none⟩), .int .i64 tn, .bool ot] W' fun en w' => en = .returned (.bool (a4 ot)) ∧ Below W'.heap.size W' w' := by
    intro ot W' hb
    rw [← hx4]
    exact ha4 ot W' hb
  clear hx4 hx4t hx4f
  generalize (e.mem.any fun m => m.1 == tn && inL ts m.2) = a5 at ha5 ⊢
  generalize (tinB ⟨(bodyL e).toArray⟩ tx) = a6 at ha6 ⊢
  generalize ((splitF e.text).1.any fun x => tinB ⟨x.2.toArray⟩ tx) = a7 at ha7 ⊢
  generalize ((splitF e.text).1.any fun x => hdB x tm tx) = a8 at ha8 ⊢
  generalize ByteArray.mk (bodyL e).toArray = ebd at E9 ha6
  generalize (splitF e.text).1.length = FN at E8 ha7 ha8
  have q0 : W.cell? ⟨w.heap.size + 1 + 1, 0, none⟩ = some (.int .i64 tk) := B7.cell 0
  have q1 : W.cell? ⟨w.heap.size + 1 + 1, 1, none⟩ = some (.int .i64 tn) := B7.cell 1
  have q3 : W.cell? ⟨w.heap.size + 1 + 1, 3, none⟩ = some (.string tx) := B7.cell 3
  have q5 : W.cell? ⟨w.heap.size + 1 + 1, 5, none⟩ = some (.slice Ak K ck) := B7.cell 5
  have q8 : W.cell? ⟨w.heap.size + 1 + 1 + 1, 0, none⟩ = some (.func (.func 31) #[] #[.pointer (some ⟨w.heap.size, 0, none⟩), .pointer (some ⟨w.heap.size + 1, 0, none⟩)]) := B8.cell 0
  have q9 : W.cell? ⟨w.heap.size, 0, none⟩ = some (.pointer (some ⟨g, 0, none⟩)) := B3.cell 0
  have E0W : W.cell? ⟨g, 3, none⟩ = some (.int .i64 e.sec) := (hbW.cell (p := ⟨g, 3, none⟩) hgl).trans E0
  have E2W : W.cell? ⟨g, 2, none⟩ = some (.string ⟨e.text.toArray⟩) := (hbW.cell (p := ⟨g, 2, none⟩) hgl).trans E2
  have E6W : W.cell? ⟨g, 6, none⟩ = some (.int .i64 e.mod) := (hbW.cell (p := ⟨g, 6, none⟩) hgl).trans E6
  have htl : (ByteArray.mk e.text.toArray).size = e.text.length := by simp [ByteArray.size]
  have HC : Hid (∀ W', Below W.heap.size W W' → W'.cell? ⟨w.heap.size, 0, none⟩ = some (.pointer (some ⟨g, 0, none⟩)) ∧ W'.cell? ⟨g, 4, none⟩ = some (.slice eAk e.keys.length eck) ∧ W'.cell? ⟨w.heap.size + 1 + 1, 3, none⟩ = some (.string tx) ∧ W'.cell? ⟨w.heap.size + 1 + 1, 1, none⟩ = some (.int .i64 tn) ∧ W'.cell? ⟨w.heap.size + 1 + 1, 0, none⟩ = some (.int .i64 tk) ∧ W'.cell? ⟨w.heap.size + 1 + 1, 4, none⟩ = some (.slice As SL cs)) := Lib.hid fun W' hb =>
    ⟨(B3.below hb B3.lt).cell 0, (hb.cell (p := ⟨g, 4, none⟩) hEW.lt).trans ((hbW.cell (p := ⟨g, 4, none⟩) hgl).trans E1), (B7.below hb B7.lt).cell 3, (B7.below hb B7.lt).cell 1, (B7.below hb B7.lt).cell 0, (B7.below hb B7.lt).cell 4⟩
  have HC2 : Hid (∀ W', Below W.heap.size W W' → W'.cell? ⟨w.heap.size, 0, none⟩ = some (.pointer (some ⟨g, 0, none⟩)) ∧ W'.cell? ⟨g, 9, none⟩ = some (.string ebd) ∧ W'.cell? ⟨w.heap.size + 1 + 1, 3, none⟩ = some (.string tx) ∧ W'.cell? ⟨g, 8, none⟩ = some (.slice Af FN cf)) := Lib.hid fun W' hb =>
    ⟨(B3.below hb B3.lt).cell 0, (hb.cell (p := ⟨g, 9, none⟩) hEW.lt).trans ((hbW.cell (p := ⟨g, 9, none⟩) hgl).trans E9), (B7.below hb B7.lt).cell 3, (hb.cell (p := ⟨g, 8, none⟩) hEW.lt).trans ((hbW.cell (p := ⟨g, 8, none⟩) hgl).trans E8)⟩
  have E8W : W.cell? ⟨g, 8, none⟩ = some (.slice Af FN cf) := (hbW.cell (p := ⟨g, 8, none⟩) hgl).trans E8
  have E9W : W.cell? ⟨g, 9, none⟩ = some (.string ebd) := (hbW.cell (p := ⟨g, 9, none⟩) hgl).trans E9
  have HA6 := Lib.hid ha6
  have HA7 := Lib.hid ha7
  have HA8 := Lib.hid ha8
  have q4 : W.cell? ⟨w.heap.size + 1 + 1, 4, none⟩ = some (.slice As SL cs) := B7.cell 4
  have E1W : W.cell? ⟨g, 4, none⟩ = some (.slice eAk e.keys.length eck) := (hbW.cell (p := ⟨g, 4, none⟩) hgl).trans E1
  generalize e.keys.length = KL at ha3 E1W HC
  generalize e.sec = sec at E0W ⊢
  generalize e.mod = mod at E6W ⊢
  generalize ByteArray.mk e.text.toArray = etx at E2W htl
  rw [← htl]
  generalize e.mem.length = ML at E5W
  subst hv
  clear he hf hrk hrk2 hrm2 hrs hrsW hrm2W hsd hEW htl hE hem hkd hok hp1 hp2 B3 B4 B7 B8 hbW heW hfW hrkW hrk2W hr hg hkb hall E0 E1 E2 E5 E6 E8 E9 hsv hkv hek ha6 ha7 ha8 hmW hrfW hsz hbl htt hm htx hts hrf2 hfv
  rcases hkind with (((((((((((((hk | hk) | hk) | hk) | hk) | hk) | hk) | hk) | hk) | hk) | hk) | hk) | hk) | hk) | hk
  · subst hk
    rw [if_pos rfl]
    go_enter Tryz.func24, Tryz.ntmps24
    go_wp2_with (first
      | (go_at_call 32; refine ha2.mono ?_; rintro en w2 ⟨rfl, hb2⟩; have HB2 := Lib.hid (below_then HBW.out hb2); clear hb2 ha2)
      | fail)
    go_ret
    exact ⟨rfl, HB2.out⟩
  · subst hk
    rw [if_neg (by decide), if_pos rfl]
    go_enter Tryz.func24, Tryz.ntmps24
    go_wp2_with (first
      | (go_at_call 32; refine ha1.mono ?_; rintro en w2 ⟨rfl, hb2⟩; have HB2 := Lib.hid (below_then HBW.out hb2); clear hb2 ha1)
      | fail)
    go_ret
    exact ⟨rfl, HB2.out⟩
  · subst hk
    rw [if_neg (by decide), if_neg (by decide), if_pos rfl]
    go_enter Tryz.func24, Tryz.ntmps24
    go_wp2_with (first
      | (go_at_call 32; refine ha1.mono ?_; rintro en w2 ⟨rfl, hb2⟩; have HB2 := Lib.hid (below_then HBW.out hb2); clear hb2 ha1)
      | fail)
    go_ret
    exact ⟨rfl, HB2.out⟩
  · subst hk
    rw [if_neg (by decide), if_neg (by decide), if_neg (by decide), if_pos rfl]
    go_enter Tryz.func24, Tryz.ntmps24
    go_wp2_with (first
      | (go_at_call 34; refine (ha4 _ _ (Below.refl _ _)).mono ?_; rintro en w2 ⟨rfl, hb2⟩; have HB2 := Lib.hid (below_then HBW.out hb2); clear hb2)
      | (go_at_call 41; refine (ha5 _ (Below.refl _ _)).mono ?_; rintro en w2 ⟨rfl, hb2⟩; have HB2 := Lib.hid (below_then HBW.out hb2); clear hb2)
      | fail)
    go_ret
    exact ⟨rfl, HB2.out⟩
  · subst hk
    rw [if_neg (by decide), if_neg (by decide), if_neg (by decide), if_neg (by decide), if_pos rfl]
    go_enter Tryz.func24, Tryz.ntmps24
    go_wp2_with (first
      | (go_at_call 34; refine (ha4 _ _ (Below.refl _ _)).mono ?_; rintro en w2 ⟨rfl, hb2⟩; have HB2 := Lib.hid (below_then HBW.out hb2); clear hb2)
      | (go_at_call 41; refine (ha5 _ (Below.refl _ _)).mono ?_; rintro en w2 ⟨rfl, hb2⟩; have HB2 := Lib.hid (below_then HBW.out hb2); clear hb2)
      | fail)
    go_ret
    exact ⟨rfl, HB2.out⟩
  · subst hk
    rw [if_neg (by decide), if_neg (by decide), if_neg (by decide), if_neg (by decide), if_neg (by decide), if_pos rfl]
    go_enter Tryz.func24, Tryz.ntmps24
    go_upto_region 14 with (fail)
    go_region_held3 (fun W => W.cell? ⟨w.heap.size, 0, none⟩ = some (.pointer (some ⟨g, 0, none⟩)) ∧ W.cell? ⟨g, 4, none⟩ = some (.slice eAk KL eck) ∧ W.cell? ⟨w.heap.size + 1 + 1, 3, none⟩ = some (.string tx)) (first | exact HC1 | go_keep) (first
      | (go_at_call 35; refine (ha3).mono ?_; rintro en w2 ⟨rfl, hb2⟩; have HB2 := Lib.hid (below_then HBW.out (below_drop hb2)); have HC1 := (fun h : _ ∧ _ ∧ _ ∧ _ => And.intro h.1 (And.intro h.2.1 h.2.2.1)) (HC.out _ (below_drop hb2)); clear hb2)
      | fail)
    all_goals
      go_wp2
      go_ret
      exact ⟨rfl, HB2.out⟩
  · subst hk
    rw [if_neg (by decide), if_neg (by decide), if_neg (by decide), if_neg (by decide), if_neg (by decide), if_neg (by decide), if_pos rfl]
    go_enter Tryz.func24, Tryz.ntmps24
    go_upto_region 16 with (fail)
    go_quiet (fail)
    go_wp2
    go_ret
    exact ⟨rfl, below_drewN HBW.out _⟩
  · subst hk
    rw [if_neg (by decide), if_neg (by decide), if_neg (by decide), if_neg (by decide), if_neg (by decide), if_neg (by decide), if_neg (by decide), if_pos rfl]
    go_enter Tryz.func24, Tryz.ntmps24
    go_upto_region 18 with (fail)
    go_quiet (fail)
    go_wp2
    go_ret
    exact ⟨rfl, below_drewN HBW.out _⟩
  · subst hk
    rw [if_neg (by decide), if_neg (by decide), if_neg (by decide), if_neg (by decide), if_neg (by decide), if_neg (by decide), if_neg (by decide), if_neg (by decide), if_pos rfl]
    go_enter Tryz.func24, Tryz.ntmps24
    go_upto_region 20 with (fail)
    go_quiet (fail)
    go_wp2
    go_ret
    exact ⟨rfl, below_drewN HBW.out _⟩
  · subst hk
    rw [if_neg (by decide), if_neg (by decide), if_neg (by decide), if_neg (by decide), if_neg (by decide), if_neg (by decide), if_neg (by decide), if_neg (by decide), if_neg (by decide), if_pos rfl]
    go_enter Tryz.func24, Tryz.ntmps24
    go_upto_region 22 with (fail)
    go_quiet (fail)
    go_wp2
    go_ret
    exact ⟨rfl, below_drewN HBW.out _⟩
  · subst hk
    rw [if_neg (by decide), if_neg (by decide), if_neg (by decide), if_neg (by decide), if_neg (by decide), if_neg (by decide), if_neg (by decide), if_neg (by decide), if_neg (by decide), if_neg (by decide), if_pos rfl]
    go_enter Tryz.func24, Tryz.ntmps24
    go_wp2_with (first
      | (go_at_call 34; refine (ha4 _ _ (Below.refl _ _)).mono ?_; rintro en w2 ⟨rfl, hb2⟩; have HB2 := Lib.hid (below_then HBW.out hb2); clear hb2)
      | (go_at_call 41; refine (ha5 _ (Below.refl _ _)).mono ?_; rintro en w2 ⟨rfl, hb2⟩; have HB2 := Lib.hid (below_then HBW.out hb2); clear hb2)
      | fail)
    go_ret
    exact ⟨rfl, HB2.out⟩
  · subst hk
    rw [if_neg (by decide), if_neg (by decide), if_neg (by decide), if_neg (by decide), if_neg (by decide), if_neg (by decide), if_neg (by decide), if_neg (by decide), if_neg (by decide), if_neg (by decide), if_neg (by decide), if_pos rfl]
    go_enter Tryz.func24, Tryz.ntmps24
    go_upto_region 32 with (fail)
    go_quiet (fail)
    go_wp2
    go_ret
    exact ⟨rfl, below_drewN HBW.out _⟩
  · subst hk
    rw [if_neg (by decide), if_neg (by decide), if_neg (by decide), if_neg (by decide), if_neg (by decide), if_neg (by decide), if_neg (by decide), if_neg (by decide), if_neg (by decide), if_neg (by decide), if_neg (by decide), if_neg (by decide), if_pos rfl]
    obtain ⟨c0, c1, c2, c3⟩ := HC2.out W (Below.refl _ _)
    cases a6 with
    | false =>
      rw [Bool.false_or]
      go_enter Tryz.func24, Tryz.ntmps24
      go_upto_region 24 with (fail)
      go_region_held3 (fun W => W.cell? ⟨w.heap.size, 0, none⟩ = some (.pointer (some ⟨g, 0, none⟩)) ∧ W.cell? ⟨g, 9, none⟩ = some (.string ebd) ∧ W.cell? ⟨w.heap.size + 1 + 1, 3, none⟩ = some (.string tx) ∧ W.cell? ⟨g, 8, none⟩ = some (.slice Af FN cf)) (first | exact HC3 | exact HC4 | go_keep) (first
        | (go_at_call 36; refine (HA6.out _ (below_drew1 W)).mono ?_; rintro en w2 ⟨rfl, hb2⟩; have HB2 : Hid (Below W.heap.size W w2) := Lib.hid (below_drop hb2); have HC3 := HC2.out _ HB2.out; clear hb2)
        | (go_at_call 37; refine (HA7.out _ HB2.out).mono ?_; rintro en w3 ⟨rfl, hb3⟩; have HB3 := Lib.hid (below_then HB2.out hb3); have HC4 := HC2.out _ HB3.out; clear hb3)
        | fail)
      all_goals
        go_wp2
        go_ret
        exact ⟨rfl, below_then HBW.out HB3.out⟩
    | true =>
      rw [Bool.true_or]
      go_enter Tryz.func24, Tryz.ntmps24
      go_upto_region 24 with (fail)
      refine wp_region_held_drew (S := fun V => V.cell? ⟨w.heap.size, 0, none⟩ = some (.pointer (some ⟨g, 0, none⟩)) ∧ V.cell? ⟨g, 9, none⟩ = some (.string ebd) ∧ V.cell? ⟨w.heap.size + 1 + 1, 3, none⟩ = some (.string tx)) (by kernel_rfl) (⟨c0, c1, c2⟩) (fun hHeld => ?_)
      refine wpAnyH_take (i := 0) (oi := _) (v := .pointer (some ⟨g, 0, none⟩)) rfl (by kernel_rfl) (by kernel_rfl) (by kernel_rfl) (fun _ _ _ h => h) (Or.inl ⟨by rfl, ?_⟩) (by trivial) ?_
      · intro V hV
        obtain ⟨s0, s1, s2⟩ := hV
        go_simp
      simp only [Act.put, List.setIfInBounds_toArray, List.set_cons_zero, List.set_cons_succ, List.getElem_toArray, List.getElem_cons_zero]
      refine wpAnyH_take (i := 1) (oi := _) (v := .pointer (some ⟨g, 0, none⟩)) rfl (by kernel_rfl) (by kernel_rfl) (by kernel_rfl) (fun _ _ _ h => h) (Or.inl ⟨by rfl, ?_⟩) (by trivial) ?_
      · intro w _
        go_simp
      simp only [Act.put, List.setIfInBounds_toArray, List.set_cons_zero, List.set_cons_succ, List.getElem_toArray, List.getElem_cons_succ, List.getElem_cons_zero]
      refine wpAnyH_take (i := 2) (oi := _) (v := .pointer (some ⟨g, 9, none⟩)) rfl (by kernel_rfl) (by kernel_rfl) (by kernel_rfl) (fun _ _ _ h => h) (Or.inl ⟨by rfl, ?_⟩) (by trivial) ?_
      · intro w _
        go_simp
      simp only [Act.put, List.setIfInBounds_toArray, List.set_cons_zero, List.set_cons_succ, List.getElem_toArray, List.getElem_cons_succ, List.getElem_cons_zero]
      refine wpAnyH_take (i := 3) (oi := _) (v := .string ebd) rfl (by kernel_rfl) (by kernel_rfl) (by kernel_rfl) (fun _ _ _ h => h) (Or.inl ⟨by rfl, ?_⟩) (by trivial) ?_
      · intro V hV
        obtain ⟨s0, s1, s2⟩ := hV
        go_simp
      simp only [Act.put, List.setIfInBounds_toArray, List.set_cons_zero, List.set_cons_succ, List.getElem_toArray, List.getElem_cons_succ, List.getElem_cons_zero]
      refine wpAnyH_take (i := 4) (oi := _) (v := .pointer (some ⟨w.heap.size + 1 + 1, 3, none⟩)) rfl (by kernel_rfl) (by kernel_rfl) (by kernel_rfl) (fun _ _ _ h => h) (Or.inl ⟨by rfl, ?_⟩) (by trivial) ?_
      · intro w _
        go_simp
      simp only [Act.put, List.setIfInBounds_toArray, List.set_cons_zero, List.set_cons_succ, List.getElem_toArray, List.getElem_cons_succ, List.getElem_cons_zero]
      refine wpAnyH_take (i := 5) (oi := _) (v := .string tx) rfl (by kernel_rfl) (by kernel_rfl) (by kernel_rfl) (fun _ _ _ h => h) (Or.inl ⟨by rfl, ?_⟩) (by trivial) ?_
      · intro V hV
        obtain ⟨s0, s1, s2⟩ := hV
        go_simp
      simp only [Act.put, List.setIfInBounds_toArray, List.set_cons_zero, List.set_cons_succ, List.getElem_toArray, List.getElem_cons_succ, List.getElem_cons_zero]
      refine wpAnyH_ready (rs := [6]) (by kernel_rfl) (by simp) ?_
      refine AllReadyH.cons (o := _) rfl (fun K hK => ?_) AllReadyH.nil
      go_simp
      go_wp2_with (first
        | (go_at_call 36; refine (HA6.out _ (below_drew1 W)).mono ?_; rintro en w2 ⟨rfl, hb2⟩; have HB2 : Hid (Below W.heap.size W w2) := Lib.hid (below_drop hb2); have HC3 := HC2.out _ HB2.out; clear hb2)
        | fail)
      refine hK.out _ _ (⟨HC3.1, HC3.2.1, HC3.2.2.1⟩) (fun _ => ?_)
      clear hK K
      refine wpAnyH_take (i := 7) (oi := _) (v := .bool true) rfl (by kernel_rfl) (by kernel_rfl) (by kernel_rfl) (fun _ _ _ h => h) (Or.inl ⟨by rfl, ?_⟩) (by trivial) ?_
      · intro w _
        go_simp
      simp only [Act.put, List.setIfInBounds_toArray, List.set_cons_zero, List.set_cons_succ, List.getElem_toArray, List.getElem_cons_succ, List.getElem_cons_zero]
      refine wpAnyH_take (i := 8) (oi := _) (v := undef) rfl (by kernel_rfl) (by kernel_rfl) (by kernel_rfl) (fun _ _ _ h => h) (Or.inr ⟨by rfl, rfl⟩) (by trivial) ?_
      simp only [Act.put, List.setIfInBounds_toArray, List.set_cons_zero, List.set_cons_succ, List.getElem_toArray, List.getElem_cons_succ, List.getElem_cons_zero]
      refine wpAnyH_take (i := 9) (oi := _) (v := undef) rfl (by kernel_rfl) (by kernel_rfl) (by kernel_rfl) (fun _ _ _ h => h) (Or.inr ⟨by rfl, rfl⟩) (by trivial) ?_
      simp only [Act.put, List.setIfInBounds_toArray, List.set_cons_zero, List.set_cons_succ, List.getElem_toArray, List.getElem_cons_succ, List.getElem_cons_zero]
      refine wpAnyH_take (i := 10) (oi := _) (v := undef) rfl (by kernel_rfl) (by kernel_rfl) (by kernel_rfl) (fun _ _ _ h => h) (Or.inr ⟨by rfl, rfl⟩) (by trivial) ?_
      simp only [Act.put, List.setIfInBounds_toArray, List.set_cons_zero, List.set_cons_succ, List.getElem_toArray, List.getElem_cons_succ, List.getElem_cons_zero]
      refine wpAnyH_take (i := 11) (oi := _) (v := undef) rfl (by kernel_rfl) (by kernel_rfl) (by kernel_rfl) (fun _ _ _ h => h) (Or.inr ⟨by rfl, rfl⟩) (by trivial) ?_
      simp only [Act.put, List.setIfInBounds_toArray, List.set_cons_zero, List.set_cons_succ, List.getElem_toArray, List.getElem_cons_succ, List.getElem_cons_zero]
      refine wpAnyH_take (i := 12) (oi := _) (v := undef) rfl (by kernel_rfl) (by kernel_rfl) (by kernel_rfl) (fun _ _ _ h => h) (Or.inr ⟨by rfl, rfl⟩) (by trivial) ?_
      simp only [Act.put, List.setIfInBounds_toArray, List.set_cons_zero, List.set_cons_succ, List.getElem_toArray, List.getElem_cons_succ, List.getElem_cons_zero]
      refine wpAnyH_take (i := 13) (oi := _) (v := undef) rfl (by kernel_rfl) (by kernel_rfl) (by kernel_rfl) (fun _ _ _ h => h) (Or.inr ⟨by rfl, rfl⟩) (by trivial) ?_
      simp only [Act.put, List.setIfInBounds_toArray, List.set_cons_zero, List.set_cons_succ, List.getElem_toArray, List.getElem_cons_succ, List.getElem_cons_zero]
      refine wpAnyH_take (i := 14) (oi := _) (v := .bool true) rfl (by kernel_rfl) (by kernel_rfl) (by kernel_rfl) (fun _ _ _ h => h) (Or.inl ⟨by rfl, ?_⟩) (by trivial) ?_
      · intro w _
        go_simp
      simp only [Act.put, List.setIfInBounds_toArray, List.set_cons_zero, List.set_cons_succ, List.getElem_toArray, List.getElem_cons_succ, List.getElem_cons_zero]
      refine wpAnyH_take (i := 15) (oi := _) (v := .bool true) rfl (by kernel_rfl) (by kernel_rfl) (by kernel_rfl) (fun _ _ _ h => h) (Or.inl ⟨by rfl, ?_⟩) (by trivial) ?_
      · intro w _
        go_simp
      simp only [Act.put, List.setIfInBounds_toArray, List.set_cons_zero, List.set_cons_succ, List.getElem_toArray, List.getElem_cons_succ, List.getElem_cons_zero]
      refine wpAnyH_done (by kernel_rfl) ?_ _
      all_goals
        go_wp2
        go_ret
        exact ⟨rfl, below_then HBW.out HB2.out⟩
  · subst hk
    rw [if_neg (by decide), if_neg (by decide), if_neg (by decide), if_neg (by decide), if_neg (by decide), if_neg (by decide), if_neg (by decide), if_neg (by decide), if_neg (by decide), if_neg (by decide), if_neg (by decide), if_neg (by decide), if_neg (by decide), if_pos rfl]
    go_enter Tryz.func24, Tryz.ntmps24
    go_wp2_with (first
      | (go_at_call 37; refine (HA8.out _ (Below.refl _ _)).mono ?_; rintro en w2 ⟨rfl, hb2⟩; have HB2 := Lib.hid (below_then HBW.out hb2); clear hb2)
      | fail)
    go_ret
    exact ⟨rfl, HB2.out⟩
  · subst hk
    rw [if_neg (by decide), if_neg (by decide), if_neg (by decide), if_neg (by decide), if_neg (by decide), if_neg (by decide), if_neg (by decide), if_neg (by decide), if_neg (by decide), if_neg (by decide), if_neg (by decide), if_neg (by decide), if_neg (by decide), if_neg (by decide), if_pos rfl]
    obtain ⟨c0, c1, c2, c3⟩ := HC2.out W (Below.refl _ _)
    go_enter Tryz.func24, Tryz.ntmps24
    go_upto_region 28 with (fail)
    go_region_held3 (fun W => W.cell? ⟨w.heap.size, 0, none⟩ = some (.pointer (some ⟨g, 0, none⟩)) ∧ W.cell? ⟨g, 9, none⟩ = some (.string ebd) ∧ W.cell? ⟨w.heap.size + 1 + 1, 3, none⟩ = some (.string tx) ∧ W.cell? ⟨g, 8, none⟩ = some (.slice Af FN cf)) (first | exact HC3 | go_keep) (first
      | (go_at_call 36; refine (HA6.out _ (below_drew1 W)).mono ?_; rintro en w2 ⟨rfl, hb2⟩; have HB2 : Hid (Below W.heap.size W w2) := Lib.hid (below_drop hb2); have HC3 := HC2.out _ HB2.out; clear hb2)
      | fail)
    all_goals
      go_wp2
      go_ret
      exact ⟨rfl, below_then HBW.out HB2.out⟩

theorem holds_allT : ∀ n, HoldRecT n
  | 0 => fun _ _ _ _ _ _ _ _ _ _ h _ _ _ _ => absurd h (by omega)
  | n + 1 => holds_stepT (holds_allT n)

/-- What Holds tells. -/
def HoldsT (e : Em) (f : Out) : Bool := rightP f && (decide (f.length = 0) || holdsT e f f.length (f.length - 1))

set_option maxRecDepth 100000 in
set_option maxHeartbeats 1000000 in
theorem holds_anyT (w : World) (e : Em) (f : Out) (v : Value) (id th born : Int) (kv mv : Value) (hs : e.text.length ≤ 2147483648) (hk : RdS w [] 1 kv e.keys.length (keysV e.keys)) (hm : RdS w [] 2 mv e.mem.length (flatR e.mem)) (hf : FAt w v f) (hg : goodUF f = true) (hkids : ∀ t ∈ f, t.kids.length ≤ 1000000) (hl : f.length ≤ 1000) (hmx : Mx w) (hts : ∀ t ∈ f, t.text.size ≤ 4294967280 ∧ t.name.size ≤ 4294967280) :
    Calls Tryz.prog 16 #[v, .agg #[.int .i64 id, .int .i64 th, .string ⟨e.text.toArray⟩, .int .i64 e.sec, kv, mv, .int .i64 e.mod, .int .i64 born]] w fun en w' => en = .returned (.bool (HoldsT e f)) ∧ Below w.heap.size w w' := by
  have hr := fun W (hb : Below w.heap.size w W) => right_anyH W v f (hf.below hb) hkids
  obtain ⟨A, cap, rfl, hca, hcb⟩ := hf.form
  have hop := fun W (hb : Below w.heap.size w W) => opened_anyH W e id th born kv mv hs (hk.below hb) (hm.below hb)
  have hho := fun W g (hb : Below w.heap.size w W) (he : EmAt W g e) (hp : 0 < f.length) => holds_allT f.length W g _ e f (f.length - 1) he (hf.below hb) hg (by omega) (by omega) hl (hmx.below hb) hs hts
  unfold HoldsT
  obtain ⟨Ak, ck, rfl, _, _⟩ := hk.form
  obtain ⟨Am, cm, rfl, _, _⟩ := hm.form
  generalize rightP f = rr at hr ⊢
  generalize holdsT e f f.length (f.length - 1) = hh at hho ⊢
  obtain ⟨N, hN⟩ : ∃ N, f.length = N := ⟨_, rfl⟩
  rw [hN] at hr hho hl
  rw [hN]
  have HR := Lib.hid hr
  have HOP := Lib.hid hop
  have HHO := Lib.hid hho
  clear hr hop hho hk hm hf hg hkids hN hs hmx hts
  cases rr with
  | false =>
    rw [Bool.false_and]
    go_enter Tryz.func16, Tryz.ntmps16
    go_wp2_with (first
      | (go_at_call 17; refine (HR.out _ (below_alloc1 w _)).mono ?_; rintro en w2 ⟨rfl, hb2⟩; have HB2 := Lib.hid (below_then (below_alloc1 w _) hb2); obtain ⟨x0, x1, x2, x3, x4, x5, x6, x7⟩ := mail8 hb2; clear hb2)
      | fail)
    go_ret
    exact ⟨rfl, HB2.out⟩
  | true =>
    rw [Bool.true_and]
    by_cases h0 : N = 0
    · subst h0
      rw [decide_eq_true rfl, Bool.true_or]
      go_enter Tryz.func16, Tryz.ntmps16
      go_wp2_with (first
        | (go_at_call 17; refine (HR.out _ (below_alloc1 w _)).mono ?_; rintro en w2 ⟨rfl, hb2⟩; have HB2 := Lib.hid (below_then (below_alloc1 w _) hb2); obtain ⟨x0, x1, x2, x3, x4, x5, x6, x7⟩ := mail8 hb2; clear hb2)
        | fail)
      go_ret
      exact ⟨rfl, HB2.out⟩
    · rw [decide_eq_false h0, Bool.false_or]
      have hcast : (((N - 1 : Nat) : Nat) : Int) = (N : Int) - 1 := by omega
      rw [hcast] at HHO
      go_enter Tryz.func16, Tryz.ntmps16
      go_wp2_with (first
        | (go_at_call 17; refine (HR.out _ (below_alloc1 w _)).mono ?_; rintro en w2 ⟨rfl, hb2⟩; have HB2 := Lib.hid (below_then (below_alloc1 w _) hb2); obtain ⟨x0, x1, x2, x3, x4, x5, x6, x7⟩ := mail8 hb2; clear hb2)
        | (go_at_call 23; refine (HOP.out _ HB2.out).mono ?_; rintro en w3 ⟨g, rfl, hem, hb3⟩; have HB3 := Lib.hid (below_then HB2.out hb3); have HEM := Lib.hid hem; clear hem hb3)
        | (go_at_call 24; refine (HHO.out _ _ HB3.out HEM.out (by omega)).mono ?_; rintro en w4 ⟨rfl, hb4⟩; have HB4 := Lib.hid (below_then HB3.out hb4); clear hb4)
        | fail)
      go_ret
      exact ⟨ret_bool (by have h9 : ((N : Int) == 0) = false := by rw [beq_eq_false_iff_ne]; omega
                          rw [h9, Bool.false_or]), HB4.out⟩

end Go.Proofs.YtnfabgbidkddhaaGreatDoor
