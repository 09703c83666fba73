/-
  The walk of seek's holds: whether a term holds of an email; nothing that was there turns.
-/
import Derived.Test.YtnfabgbidkddhaaGreatDoorHoldInM
import Derived.Test.YtnfabgbidkddhaaGreatDoorSplit1M
namespace Go.Proofs.YtnfabgbidkddhaaGreatDoor
open Go.RowKit
attribute [local go_sem ↓] Go.wp_at_zero Go.wp_at_succ

@[go_sem] theorem run_storeF (P : Program) (w : World) (a : Addr) (m : Mode) (fn : Fn) (first captured : Array Value) : Sem.run P (store a (.func fn first captured) m) w = stored P w a (.func fn first captured) m := run_store P w a _ m rfl

/-- The body of an email. -/
def bodyL (e : Em) : List UInt8 := e.text.drop (splitF e.text).2
/-- An email, opened, in memory. -/
def EmAt (w : World) (g : Nat) (e : Em) : Prop := ∃ (id th born : Int) (kv mv fv : Value) (Ak Am : Option Addr) (ck cm : Nat), Blk w g 83 #[.int .i64 id, .int .i64 th, .string ⟨e.text.toArray⟩, .int .i64 e.sec, kv, mv, .int .i64 e.mod, .int .i64 born, fv, .string ⟨(bodyL e).toArray⟩] ∧
  kv = .slice Ak e.keys.length ck ∧ mv = .slice Am e.mem.length cm ∧ RdS w [] 1 kv e.keys.length (keysV e.keys) ∧ RdS w [] 2 mv e.mem.length (flatR e.mem) ∧ RdS w [] 2 fv (splitF e.text).1.length (flatG encF (splitF e.text).1)
theorem EmAt.below {w w' : World} {g : Nat} {e : Em} (h : EmAt w g e) (hb : Below w.heap.size w w') : EmAt w' g e := by
  obtain ⟨id, th, born, kv, mv, fv, Ak, Am, ck, cm, h1, h2, h3, h4, h5, h6⟩ := h
  exact ⟨id, th, born, kv, mv, fv, Ak, Am, ck, cm, h1.below hb h1.lt, h2, h3, h4.below hb, h5.below hb, h6.below hb⟩

/-- The contract of holds, of places below n. -/
def HoldRec (n : Nat) : Prop := ∀ (w : World) (g : Nat) (v : Value) (e : Em) (f : Out) (i : Nat), EmAt w g e → FAt w v f → goodF f = true → i < f.length → i < n → f.length ≤ 1000 →
  Calls Tryz.prog 24 #[.pointer (some ⟨g, 0, none⟩), v, .int .i64 (i : Nat)] w fun en w' => en = .returned (.bool (holdsP e f n i)) ∧ Below w.heap.size w w'

set_option maxRecDepth 100000 in
theorem kid_anyH {n : Nat} (hr : HoldRec n) (w : World) (g b3 b4 : Nat) (v : Value) (e : Em) (f : Out) (k : Int) (he : EmAt w g e) (hf : FAt w v f) (hg : goodF f = true) (hk0 : 0 ≤ k) (hk1 : k.toNat < f.length) (hk2 : k.toNat < n) (hl : f.length ≤ 1000)
    (h3 : Blk w b3 71 #[.pointer (some ⟨g, 0, none⟩)]) (h4 : Blk w b4 27 #[v]) :
    Calls Tryz.prog 31 #[.int .i64 k, .pointer (some ⟨b3, 0, none⟩), .pointer (some ⟨b4, 0, none⟩)] w fun en w' => en = .returned (.bool (holdsP e f n k.toNat)) ∧ Below w.heap.size w w' := by
  have hc := hr w g v e f k.toNat he hf hg hk1 hk2 hl
  have hkk : ((k.toNat : Nat) : Int) = k := by omega
  rw [hkk] at hc
  obtain ⟨A, cap, rfl, _, _⟩ := hf.form
  have e3 : w.cell? ⟨b3, 0, none⟩ = some (.pointer (some ⟨g, 0, none⟩)) := h3.cell 0
  have e4 : w.cell? ⟨b4, 0, none⟩ = some (.slice A f.length cap) := h4.cell 0
  generalize f.length = N at *
  clear hr he hf hg h3 h4 hkk
  go_enter Tryz.func31, Tryz.ntmps31
  go_wp2_with (first
    | (go_at_call 24; refine hc.mono ?_; rintro en w2 ⟨rfl, hb2⟩; have HB2 := Lib.hid hb2; clear hb2 hc)
    | fail)
  go_ret
  exact ⟨rfl, HB2.out⟩
set_option maxRecDepth 100000 in
theorem kidN_anyH {n : Nat} (hr : HoldRec n) (w : World) (g b3 b4 b8 : Nat) (v : Value) (e : Em) (f : Out) (k : Int) (he : EmAt w g e) (hf : FAt w v f) (hg : goodF f = true) (hk0 : 0 ≤ k) (hk1 : k.toNat < f.length) (hk2 : k.toNat < n) (hl : f.length ≤ 1000)
    (h3 : Blk w b3 71 #[.pointer (some ⟨g, 0, none⟩)]) (h4 : Blk w b4 27 #[v]) (h8 : Blk w b8 84 #[.func (.func 31) #[] #[.pointer (some ⟨b3, 0, none⟩), .pointer (some ⟨b4, 0, none⟩)]]) :
    Calls Tryz.prog 33 #[.int .i64 k, .pointer (some ⟨b8, 0, none⟩)] w fun en w' => en = .returned (.bool (!holdsP e f n k.toNat)) ∧ Below w.heap.size w w' := by
  have hc := kid_anyH hr w g b3 b4 v e f k he hf hg hk0 hk1 hk2 hl h3 h4
  have e8 : w.cell? ⟨b8, 0, none⟩ = some (.func (.func 31) #[] #[.pointer (some ⟨b3, 0, none⟩), .pointer (some ⟨b4, 0, none⟩)]) := h8.cell 0
  clear hr he hf hg h3 h4 h8
  go_enter Tryz.func33, Tryz.ntmps33
  go_wp2_with (first
    | (go_at_call 31; refine hc.mono ?_; rintro en w2 ⟨rfl, hb2⟩; have HB2 := Lib.hid hb2; clear hb2 hc)
    | fail)
  go_ret
  exact ⟨rfl, HB2.out⟩

set_option maxRecDepth 100000 in
set_option maxHeartbeats 8000000 in
theorem holds_step {n : Nat} (hr : HoldRec n) : HoldRec (n + 1) := by
  intro w g v e f i he hf hg hi hin hl
  obtain ⟨b, off, cap, sv, kv, F, hv, hbl, d0, d1, d2, d3, d4, d5, hok⟩ := hf.at_ i hi
  have hgt := goodF_at hg i hi
  have hans : holdsP e f (n + 1) i = (if f[i].kind = 1 then f[i].kids.all fun k => holdsP e f n k.toNat
      else if f[i].kind = 2 then f[i].kids.any fun k => holdsP e f n k.toNat
      else if f[i].kind = 3 then !(f[i].kids.any fun k => holdsP e f n k.toNat)
      else if f[i].kind = 4 then e.mem.any fun m => (m.1 == f[i].n) != false
      else if f[i].kind = 5 then e.mem.any fun m => (m.1 == f[i].n) != true
      else if f[i].kind = 6 then e.keys.any fun k => k == f[i].text
      else if f[i].kind = 7 then decide (e.sec < f[i].n)
      else if f[i].kind = 8 then decide (f[i].n ≤ e.sec)
      else if f[i].kind = 9 then decide (f[i].n ≤ (e.text.length : Nat))
      else if f[i].kind = 10 then decide (((e.text.length : Nat) : Int) < f[i].n)
      else if f[i].kind = 14 then e.mem.any fun m => m.1 == f[i].n && inL f[i].set m.2
      else if f[i].kind = 15 then decide (f[i].n ≤ e.mod)
      else false) := by
    show (match f[i]? with | none => false | some t => _) = _
    rw [List.getElem?_eq_getElem hi]
  obtain ⟨t, ht⟩ : ∃ t, f[i] = t := ⟨_, rfl⟩
  rw [ht] at d0 d1 d2 d3 hok hgt hans
  rw [hans]
  clear hans ht
  obtain ⟨hsk, hkd, _⟩ := hok.kids
  obtain ⟨Ak, ck, hkv, _, _⟩ := hkd.form
  obtain ⟨_, hsd⟩ := hok.set
  obtain ⟨As, cs, hsv, _, _⟩ := hsd.form
  have hrs := hsd.reads [] (by simp)
  have hrk := hkd.reads [] (by simp)
  obtain ⟨tk, tn, tm, tx, ts, tl⟩ := t
  simp only at d0 d1 d2 d3 hkv hsv hrk hrs ⊢
  rw [hkv] at d5 hrk
  rw [hsv] at d4 hrs
  simp only [goodT, Bool.and_eq_true, Bool.or_eq_true, beq_iff_eq, List.all_eq_true, decide_eq_true_eq] at hgt
  obtain ⟨hkind, hkb⟩ := hgt
  have he0 := he
  obtain ⟨eid, th, born, ekv, emv, efv, eAk, eAm, eck, ecm, hE, hek, hem, hrk2, hrm2, _⟩ := he0
  have E0 : w.cell? ⟨g, 3, none⟩ = some (.int .i64 e.sec) := hE.cell 3
  have E1 : w.cell? ⟨g, 4, none⟩ = some ekv := hE.cell 4
  have E2 : w.cell? ⟨g, 2, none⟩ = some (.string ⟨e.text.toArray⟩) := hE.cell 2
  have E5 : w.cell? ⟨g, 5, none⟩ = some emv := hE.cell 5
  have E6 : w.cell? ⟨g, 6, none⟩ = some (.int .i64 e.mod) := hE.cell 6
  have hgl := hE.lt
  rw [hek] at E1 hrk2
  obtain ⟨N, hN⟩ : ∃ N, f.length = N := ⟨_, rfl⟩
  obtain ⟨K, hK⟩ : ∃ K, tl.length = K := ⟨_, rfl⟩
  obtain ⟨SL, hSL⟩ : ∃ SL, ts.length = SL := ⟨_, rfl⟩
  rw [hK] at d5
  rw [hSL] at d4
  rw [hN] at hv
  -- the world behind the first lines
  obtain ⟨W, hW⟩ : ∃ W, (((w.alloc (.cells #[.pointer (some ⟨g, 0, none⟩)] 71)).alloc (.cells #[v] 27)).alloc (.cells #[.int .i64 tk, .int .i64 tn, .string tm, .string tx, .slice As SL cs, .slice Ak K ck] 57)).alloc (.cells #[.func (.func 31) #[] #[.pointer (some ⟨w.heap.size, 0, none⟩), .pointer (some ⟨w.heap.size + 1, 0, none⟩)]] 84) = W := ⟨_, rfl⟩
  have B3 : Blk W w.heap.size 71 #[.pointer (some ⟨g, 0, none⟩)] := by rw [← hW]; exact (((Blk.new w _ _).alloc _).alloc _).alloc _
  have B4 : Blk W (w.heap.size + 1) 27 #[v] := by
    rw [← hW]
    exact ((blk_new2 w _ _ _).alloc _).alloc _
  have B7 : Blk W (w.heap.size + 1 + 1) 57 #[.int .i64 tk, .int .i64 tn, .string tm, .string tx, .slice As SL cs, .slice Ak K ck] := by
    rw [← hW]
    have h := Blk.new ((w.alloc (.cells #[.pointer (some ⟨g, 0, none⟩)] 71)).alloc (.cells #[v] 27)) 57 #[.int .i64 tk, .int .i64 tn, .string tm, .string tx, .slice As SL cs, .slice Ak K ck]
    have h2 := h.alloc (.cells #[.func (.func 31) #[] #[.pointer (some ⟨w.heap.size, 0, none⟩), .pointer (some ⟨w.heap.size + 1, 0, none⟩)]] 84)
    simpa using h2
  have B8 : Blk W (w.heap.size + 1 + 1 + 1) 84 #[.func (.func 31) #[] #[.pointer (some ⟨w.heap.size, 0, none⟩), .pointer (some ⟨w.heap.size + 1, 0, none⟩)]] := by
    rw [← hW]
    have h := Blk.new (((w.alloc (.cells #[.pointer (some ⟨g, 0, none⟩)] 71)).alloc (.cells #[v] 27)).alloc (.cells #[.int .i64 tk, .int .i64 tn, .string tm, .string tx, .slice As SL cs, .slice Ak K ck] 57)) 84 #[.func (.func 31) #[] #[.pointer (some ⟨w.heap.size, 0, none⟩), .pointer (some ⟨w.heap.size + 1, 0, none⟩)]]
    simpa using h
  have hbW : Below w.heap.size w W := by
    rw [← hW]
    exact ((((Below.refl _ _).alloc (Nat.le_refl _) _).alloc (by simp) _).alloc (by simp; omega) _).alloc (by simp; omega) _
  have heW := he.below hbW
  have hfW := hf.below hbW
  have hrkW := hrk.below hbW
  have hrk2W := hrk2.below hbW
  have hrm2W := hrm2.below hbW
  have hrsW := hrs.below hbW
  have hEW := hE.below hbW hE.lt
  have hp1 : ∀ x ∈ tl, ∀ W', Below W.heap.size W W' → Calls Tryz.prog 31 (#[.int .i64 x] ++ #[.pointer (some ⟨w.heap.size, 0, none⟩), .pointer (some ⟨w.heap.size + 1, 0, none⟩)]) W' fun en W2 => en = .returned (.bool (holdsP e f n x.toNat)) ∧ Below W'.heap.size W' W2 := by
    intro x hx W' hb
    have hkx := hkb x hx
    exact kid_anyH hr W' g _ _ v e f x (heW.below hb) (hfW.below hb) hg hkx.1 (by omega) (by omega) hl (B3.below hb B3.lt) (B4.below hb B4.lt)
  have hp2 : ∀ x ∈ tl, ∀ W', Below W.heap.size W W' → Calls Tryz.prog 33 (#[.int .i64 x] ++ #[.pointer (some ⟨w.heap.size + 1 + 1 + 1, 0, none⟩)]) W' fun en W2 => en = .returned (.bool (!holdsP e f n x.toNat)) ∧ Below W'.heap.size W' W2 := by
    intro x hx W' hb
    have hkx := hkb x hx
    exact kidN_anyH hr W' g _ _ _ v e f x (heW.below hb) (hfW.below hb) hg hkx.1 (by omega) (by omega) hl (B3.below hb B3.lt) (B4.below hb B4.lt) (B8.below hb B8.lt)
  have ha1 := hasI_any W _ tl hrkW 31 #[.pointer (some ⟨w.heap.size, 0, none⟩), .pointer (some ⟨w.heap.size + 1, 0, none⟩)] (fun x => holdsP e f n x.toNat) (enters_of Tryz.func31 (by kernel_rfl) rfl) hp1
  have ha2 := hasI_any W _ tl hrkW 33 #[.pointer (some ⟨w.heap.size + 1 + 1 + 1, 0, none⟩)] (fun x => !holdsP e f n x.toNat) (enters_of Tryz.func33 (by kernel_rfl) rfl) hp2
  have ha3 := hasT_any W.drew _ e.keys (hrk2W.below (below_drew1 W)) tx
  rw [hem] at hrm2W E5 hEW
  have E5W : W.cell? ⟨g, 5, none⟩ = some (.slice eAm e.mem.length ecm) := (hbW.cell (p := ⟨g, 5, none⟩) hgl).trans E5
  have ha4 := fun ot (W' : World) (hb : Below W.heap.size W W') => inside_anyH W' g _ _ e.mem tn ot (hEW.below hb hEW.lt) ((hb.cell (p := ⟨g, 5, none⟩) hEW.lt).trans E5W) (hrm2W.below hb)
  have ha5 := fun (W' : World) (hb : Below W.heap.size W W') => within_anyH W' g _ _ _ e.mem ts tn (hEW.below hb hEW.lt) ((hb.cell (p := ⟨g, 5, none⟩) hEW.lt).trans E5W) (hrm2W.below hb) (hrsW.below hb)
  rw [hK] at ha1 ha2
  rw [hSL] at ha5
  have HBW := Lib.hid hbW
  have hall : (tl.all fun k => holdsP e f n k.toNat) = !(tl.any fun k => !holdsP e f n k.toNat) := by rw [List.all_eq_not_any_not]
  rw [hall]
  generalize (tl.any fun k => !holdsP e f n k.toNat) = a2 at ha2 ⊢
  generalize (tl.any fun k => holdsP e f n k.toNat) = a1 at ha1 ⊢
  generalize (e.keys.any fun k => k == tx) = a3 at ha3 ⊢
  obtain ⟨a4, hx4⟩ : ∃ a4, (fun ot => e.mem.any fun m => (m.1 == tn) != ot) = a4 := ⟨_, rfl⟩
  have hx4t : (e.mem.any fun m => (m.1 == tn) != true) = a4 true := by rw [← hx4]
  have hx4f : (e.mem.any fun m => (m.1 == tn) != false) = a4 false := by rw [← hx4]
  rw [hx4t, hx4f]
  have ha4 : ∀ ot (W' : World), Below W.heap.size W W' → Calls Tryz.prog 34 #[.pointer (some ⟨g, 0, none⟩), .int .i64 tn, .bool ot] W' fun en w' => en = .returned (.bool (a4 ot)) ∧ Below W'.heap.size W' w' := by
    intro ot W' hb
    rw [← hx4]
    exact ha4 ot W' hb
  clear hx4 hx4t hx4f
  generalize (e.mem.any fun m => m.1 == tn && inL ts m.2) = a5 at ha5 ⊢
  have q0 : W.cell? ⟨w.heap.size + 1 + 1, 0, none⟩ = some (.int .i64 tk) := B7.cell 0
  have q1 : W.cell? ⟨w.heap.size + 1 + 1, 1, none⟩ = some (.int .i64 tn) := B7.cell 1
  have q3 : W.cell? ⟨w.heap.size + 1 + 1, 3, none⟩ = some (.string tx) := B7.cell 3
  have q5 : W.cell? ⟨w.heap.size + 1 + 1, 5, none⟩ = some (.slice Ak K ck) := B7.cell 5
  have q8 : W.cell? ⟨w.heap.size + 1 + 1 + 1, 0, none⟩ = some (.func (.func 31) #[] #[.pointer (some ⟨w.heap.size, 0, none⟩), .pointer (some ⟨w.heap.size + 1, 0, none⟩)]) := B8.cell 0
  have q9 : W.cell? ⟨w.heap.size, 0, none⟩ = some (.pointer (some ⟨g, 0, none⟩)) := B3.cell 0
  have E0W : W.cell? ⟨g, 3, none⟩ = some (.int .i64 e.sec) := (hbW.cell (p := ⟨g, 3, none⟩) hgl).trans E0
  have E2W : W.cell? ⟨g, 2, none⟩ = some (.string ⟨e.text.toArray⟩) := (hbW.cell (p := ⟨g, 2, none⟩) hgl).trans E2
  have E6W : W.cell? ⟨g, 6, none⟩ = some (.int .i64 e.mod) := (hbW.cell (p := ⟨g, 6, none⟩) hgl).trans E6
  have htl : (ByteArray.mk e.text.toArray).size = e.text.length := by simp [ByteArray.size]
  have HC : Hid (∀ W', Below W.heap.size W W' → W'.cell? ⟨w.heap.size, 0, none⟩ = some (.pointer (some ⟨g, 0, none⟩)) ∧ W'.cell? ⟨g, 4, none⟩ = some (.slice eAk e.keys.length eck) ∧ W'.cell? ⟨w.heap.size + 1 + 1, 3, none⟩ = some (.string tx) ∧ W'.cell? ⟨w.heap.size + 1 + 1, 1, none⟩ = some (.int .i64 tn) ∧ W'.cell? ⟨w.heap.size + 1 + 1, 0, none⟩ = some (.int .i64 tk) ∧ W'.cell? ⟨w.heap.size + 1 + 1, 4, none⟩ = some (.slice As SL cs)) := Lib.hid fun W' hb =>
    ⟨(B3.below hb B3.lt).cell 0, (hb.cell (p := ⟨g, 4, none⟩) hEW.lt).trans ((hbW.cell (p := ⟨g, 4, none⟩) hgl).trans E1), (B7.below hb B7.lt).cell 3, (B7.below hb B7.lt).cell 1, (B7.below hb B7.lt).cell 0, (B7.below hb B7.lt).cell 4⟩
  have q4 : W.cell? ⟨w.heap.size + 1 + 1, 4, none⟩ = some (.slice As SL cs) := B7.cell 4
  have E1W : W.cell? ⟨g, 4, none⟩ = some (.slice eAk e.keys.length eck) := (hbW.cell (p := ⟨g, 4, none⟩) hgl).trans E1
  generalize e.keys.length = KL at ha3 E1W HC
  generalize e.sec = sec at E0W ⊢
  generalize e.mod = mod at E6W ⊢
  generalize ByteArray.mk e.text.toArray = etx at E2W htl
  rw [← htl]
  generalize e.mem.length = ML at E5W
  subst hv
  clear he hf hrk hrk2 hrm2 hrs hrsW hrm2W hsd hEW htl hE hem hkd hok hp1 hp2 B3 B4 B7 B8 hbW heW hfW hrkW hrk2W hr hg hkb hall E0 E1 E2 E5 E6 hsv hkv hek
  rcases hkind with ((((((((((hk | hk) | hk) | hk) | hk) | hk) | hk) | hk) | hk) | hk) | hk) | hk
  · subst hk
    rw [if_pos rfl]
    go_enter Tryz.func24, Tryz.ntmps24
    go_wp2_with (first
      | (go_at_call 32; refine ha2.mono ?_; rintro en w2 ⟨rfl, hb2⟩; have HB2 := Lib.hid (below_then HBW.out hb2); clear hb2 ha2)
      | fail)
    go_ret
    exact ⟨rfl, HB2.out⟩
  · subst hk
    rw [if_neg (by decide), if_pos rfl]
    go_enter Tryz.func24, Tryz.ntmps24
    go_wp2_with (first
      | (go_at_call 32; refine ha1.mono ?_; rintro en w2 ⟨rfl, hb2⟩; have HB2 := Lib.hid (below_then HBW.out hb2); clear hb2 ha1)
      | fail)
    go_ret
    exact ⟨rfl, HB2.out⟩
  · subst hk
    rw [if_neg (by decide), if_neg (by decide), if_pos rfl]
    go_enter Tryz.func24, Tryz.ntmps24
    go_wp2_with (first
      | (go_at_call 32; refine ha1.mono ?_; rintro en w2 ⟨rfl, hb2⟩; have HB2 := Lib.hid (below_then HBW.out hb2); clear hb2 ha1)
      | fail)
    go_ret
    exact ⟨rfl, HB2.out⟩
  · subst hk
    rw [if_neg (by decide), if_neg (by decide), if_neg (by decide), if_pos rfl]
    go_enter Tryz.func24, Tryz.ntmps24
    go_wp2_with (first
      | (go_at_call 34; refine (ha4 _ _ (Below.refl _ _)).mono ?_; rintro en w2 ⟨rfl, hb2⟩; have HB2 := Lib.hid (below_then HBW.out hb2); clear hb2)
      | (go_at_call 41; refine (ha5 _ (Below.refl _ _)).mono ?_; rintro en w2 ⟨rfl, hb2⟩; have HB2 := Lib.hid (below_then HBW.out hb2); clear hb2)
      | fail)
    go_ret
    exact ⟨rfl, HB2.out⟩
  · subst hk
    rw [if_neg (by decide), if_neg (by decide), if_neg (by decide), if_neg (by decide), if_pos rfl]
    go_enter Tryz.func24, Tryz.ntmps24
    go_wp2_with (first
      | (go_at_call 34; refine (ha4 _ _ (Below.refl _ _)).mono ?_; rintro en w2 ⟨rfl, hb2⟩; have HB2 := Lib.hid (below_then HBW.out hb2); clear hb2)
      | (go_at_call 41; refine (ha5 _ (Below.refl _ _)).mono ?_; rintro en w2 ⟨rfl, hb2⟩; have HB2 := Lib.hid (below_then HBW.out hb2); clear hb2)
      | fail)
    go_ret
    exact ⟨rfl, HB2.out⟩
  · subst hk
    rw [if_neg (by decide), if_neg (by decide), if_neg (by decide), if_neg (by decide), if_neg (by decide), if_pos rfl]
    go_enter Tryz.func24, Tryz.ntmps24
    go_upto_region 14 with (fail)
    go_region_held3 (fun W => W.cell? ⟨w.heap.size, 0, none⟩ = some (.pointer (some ⟨g, 0, none⟩)) ∧ W.cell? ⟨g, 4, none⟩ = some (.slice eAk KL eck) ∧ W.cell? ⟨w.heap.size + 1 + 1, 3, none⟩ = some (.string tx)) (first | exact HC1 | go_keep) (first
      | (go_at_call 35; refine (ha3).mono ?_; rintro en w2 ⟨rfl, hb2⟩; have HB2 := Lib.hid (below_then HBW.out (below_drop hb2)); have HC1 := (fun h : _ ∧ _ ∧ _ ∧ _ => And.intro h.1 (And.intro h.2.1 h.2.2.1)) (HC.out _ (below_drop hb2)); clear hb2)
      | fail)
    all_goals
      go_wp2
      go_ret
      exact ⟨rfl, HB2.out⟩
  · subst hk
    rw [if_neg (by decide), if_neg (by decide), if_neg (by decide), if_neg (by decide), if_neg (by decide), if_neg (by decide), if_pos rfl]
    go_enter Tryz.func24, Tryz.ntmps24
    go_upto_region 16 with (fail)
    go_quiet (fail)
    go_wp2
    go_ret
    exact ⟨rfl, below_drewN HBW.out _⟩
  · subst hk
    rw [if_neg (by decide), if_neg (by decide), if_neg (by decide), if_neg (by decide), if_neg (by decide), if_neg (by decide), if_neg (by decide), if_pos rfl]
    go_enter Tryz.func24, Tryz.ntmps24
    go_upto_region 18 with (fail)
    go_quiet (fail)
    go_wp2
    go_ret
    exact ⟨rfl, below_drewN HBW.out _⟩
  · subst hk
    rw [if_neg (by decide), if_neg (by decide), if_neg (by decide), if_neg (by decide), if_neg (by decide), if_neg (by decide), if_neg (by decide), if_neg (by decide), if_pos rfl]
    go_enter Tryz.func24, Tryz.ntmps24
    go_upto_region 20 with (fail)
    go_quiet (fail)
    go_wp2
    go_ret
    exact ⟨rfl, below_drewN HBW.out _⟩
  · subst hk
    rw [if_neg (by decide), if_neg (by decide), if_neg (by decide), if_neg (by decide), if_neg (by decide), if_neg (by decide), if_neg (by decide), if_neg (by decide), if_neg (by decide), if_pos rfl]
    go_enter Tryz.func24, Tryz.ntmps24
    go_upto_region 22 with (fail)
    go_quiet (fail)
    go_wp2
    go_ret
    exact ⟨rfl, below_drewN HBW.out _⟩
  · subst hk
    rw [if_neg (by decide), if_neg (by decide), if_neg (by decide), if_neg (by decide), if_neg (by decide), if_neg (by decide), if_neg (by decide), if_neg (by decide), if_neg (by decide), if_neg (by decide), if_pos rfl]
    go_enter Tryz.func24, Tryz.ntmps24
    go_wp2_with (first
      | (go_at_call 34; refine (ha4 _ _ (Below.refl _ _)).mono ?_; rintro en w2 ⟨rfl, hb2⟩; have HB2 := Lib.hid (below_then HBW.out hb2); clear hb2)
      | (go_at_call 41; refine (ha5 _ (Below.refl _ _)).mono ?_; rintro en w2 ⟨rfl, hb2⟩; have HB2 := Lib.hid (below_then HBW.out hb2); clear hb2)
      | fail)
    go_ret
    exact ⟨rfl, HB2.out⟩
  · subst hk
    rw [if_neg (by decide), if_neg (by decide), if_neg (by decide), if_neg (by decide), if_neg (by decide), if_neg (by decide), if_neg (by decide), if_neg (by decide), if_neg (by decide), if_neg (by decide), if_neg (by decide), if_pos rfl]
    go_enter Tryz.func24, Tryz.ntmps24
    go_upto_region 32 with (fail)
    go_quiet (fail)
    go_wp2
    go_ret
    exact ⟨rfl, below_drewN HBW.out _⟩

end Go.Proofs.YtnfabgbidkddhaaGreatDoor
