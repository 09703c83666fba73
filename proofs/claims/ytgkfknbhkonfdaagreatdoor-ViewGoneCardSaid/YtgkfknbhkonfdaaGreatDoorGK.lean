/-
  The walk of the store's Keys: what it hands back, and the account behind it, are keysP's.
-/
import Derived.Test.YtgkfknbhkonfdaaGreatDoorGF
import Derived.Test.YtgkfknbhkonfdaaGreatDoorGD
import Derived.Test.YtgkfknbhkonfdaaGreatDoorGC
namespace Go.Proofs.YtgkfknbhkonfdaaGreatDoor
open Go.Shelf Go.RowKit
attribute [local go_sem ↓] Go.wp_at_zero Go.wp_at_succ

theorem mail_at : ∀ {l : List MailM} {id : Int}, id ∈ idsMl (l.map (·.p)) → ∃ k, ∃ hk : k < l.length, place (fun m : MailM => decide (m.p.id = id)) l = (k : Int) ∧ mailOf id (l.map (·.p)) = (k : Int) ∧ l[k].p.id = id ∧ (∀ f, setMail id f (l.map (·.p)) = (l.map (·.p)).set k (f l[k].p)) ∧ (l.map (·.p)).find? (fun m => decide (m.id = id)) = some l[k].p
  | [], id, h => by simp [idsMl] at h
  | b :: r, id, h => by
    by_cases hb : b.p.id = id
    · exact ⟨0, by simp, by simp [place, hb], by simp [mailOf, place, hb], hb, fun f => by simp [setMail, hb], by simp [hb]⟩
    · have h' : id ∈ idsMl (r.map (·.p)) := by
        simp only [idsMl, List.map_cons, List.mem_cons] at h
        rcases h with h | h
        · exact absurd h.symm hb
        · exact h
      obtain ⟨k, hk, h1, h1b, h2, h4, h5⟩ := mail_at h'
      have hb' : ¬ decide (b.p.id = id) = true := by simpa using hb
      refine ⟨k + 1, by simpa using hk, ?_, ?_, h2, fun f => ?_, ?_⟩
      · unfold place
        rw [if_neg hb', h1, if_neg (by omega)]
        omega
      · have h1' : place (fun m : MailP => decide (m.id = id)) (r.map (·.p)) = k := h1b
        unfold mailOf
        rw [List.map_cons]
        unfold place
        rw [if_neg hb', h1', if_neg (by omega)]
        omega
      · simp only [List.map_cons, setMail, if_neg hb, h4 f, List.set_cons_succ, List.getElem_cons_succ]
      · rw [List.map_cons, List.find?_cons_of_neg (by simpa using hb)]
        exact h5
theorem mail_none : ∀ {l : List MailM} {id : Int}, id ∉ idsMl (l.map (·.p)) → place (fun m : MailM => decide (m.p.id = id)) l = -1 ∧ (l.map (·.p)).find? (fun m => decide (m.id = id)) = none
  | [], id, _ => ⟨rfl, rfl⟩
  | b :: r, id, h => by
    simp only [idsMl, List.map_cons, List.mem_cons, not_or] at h
    obtain ⟨h1, h2⟩ := h
    obtain ⟨h3, h4⟩ := mail_none (l := r) (id := id) h2
    have hb' : ¬ decide (b.p.id = id) = true := by simpa using fun e => h1 e.symm
    refine ⟨?_, ?_⟩
    · unfold place
      rw [if_neg hb', h3]
      rfl
    · have hd : decide (b.p.id = id) = false := by simpa using hb'
      simp only [List.map_cons, List.find?_cons, hd]
      exact h4
theorem keysF_le (l : Texts) : (keysF l).1.length ≤ 16 := by
  unfold keysF
  split
  · simp
  · split
    · simp
    · simp only
      omega
/-- What an act hands back that says its error alone; the account behind it. -/
def ErrOut (w : World) (g : Nat) (q : Lies) (r : Acc × Int) (e : Ending) (w' : World) : Prop := e = .returned (.int .i64 r.2) ∧ ∃ q', Turned w w' g q r.1 q'
structure KeyIn (w : World) (g : Nat) (q : Lies) (x : Acc) (ks : Texts) (vk : Value) (Sk : List Nat) : Prop where
  at_ : StoreAt w g q x
  fit : Fit x
  keys : RdS w Sk 1 vk ks.length (ks.map encStr)
  nk : ks.length ≤ 1099511627776
  short : Short ks
section
variable {w : World} {g : Nat} {q : Lies} {x : Acc} {ks : Texts} {vk : Value} {Sk : List Nat}
theorem StoreAt.mc (h : StoreAt w g q x) (hf : Fit x) (id : Int) : Calls Tryz.prog 71 #[.pointer (some ⟨g, 0, none⟩), .int .i64 id] w fun e w' => e = .returned (.int .i64 (place (fun m => decide (m.p.id = id)) q.ms)) ∧ Below w.heap.size w w' := by
  have hl := h.msLen
  have h1 := hf.nm
  have h2 := hf.clock
  have h3 := hf.cfg.mod
  refine mail_any g q.vm [] q.ms id w h.cell11 ?_ (by omega)
  rw [hl]
  exact h.mails.reads [] (by simp)
theorem KeyIn.kc (h : KeyIn w g q x ks vk Sk) (W : World) (hb : Below w.heap.size w W) : Calls Tryz.prog 61 #[vk] W fun e w' => ∃ A cap hh, e = .returned (.tuple #[.slice A (keysF ks).1.length cap, .int .i64 (keysF ks).2]) ∧ Sl w' 9 1 (.slice A (keysF ks).1.length cap) hh (keysF ks).1.length ((keysF ks).1.map encStr) ∧ Below W.heap.size W w' ∧ ∀ b, hh = some b → W.heap.size ≤ b :=
  keys_any W vk ks.length ks rfl h.nk ((h.keys.below hb).sub (fun _ _ _ hm => by cases hm)) h.short
end

set_option maxRecDepth 100000 in
set_option maxHeartbeats 4000000 in
theorem keys_none (w : World) (g : Nat) (q : Lies) (x : Acc) (id : Int) (ks : Texts) (vk : Value) (Sk : List Nat) (h : KeyIn w g q x ks vk Sk) (hno : id ∉ idsMl x.mails) :
    Calls Tryz.prog 23 #[.pointer (some ⟨g, 0, none⟩), .int .i64 id, vk] w (ErrOut w g q (keysP x id ks)) := by
  have hno2 : id ∉ idsMl (q.ms.map (·.p)) := by rw [h.at_.same]; exact hno
  obtain ⟨h1, h2⟩ := mail_none hno2
  rw [h.at_.same] at h2
  have hres : keysP x id ks = (x, 6) := by
    unfold keysP keysK
    rw [h2]
  rw [hres]
  have hmc := h.at_.mc h.fit id
  rw [h1] at hmc
  have H := Lib.hid h
  clear hno hno2 h1 h2 hres h
  go_enter Tryz.func23, Tryz.ntmps23
  go_wp2_with (first
    | (go_at_call 71; refine hmc.mono ?_; rintro e w1 ⟨rfl, hb1⟩; have HB1 := Lib.hid hb1; clear hb1)
    | fail)
  go_ret
  exact ⟨rfl, q, Turned.of_below H.out.at_ HB1.out⟩

set_option maxRecDepth 100000 in
set_option maxHeartbeats 4000000 in
theorem keys_bad (w : World) (g : Nat) (q : Lies) (x : Acc) (id : Int) (ks : Texts) (vk : Value) (Sk : List Nat) (h : KeyIn w g q x ks vk Sk) (i : Nat) (hi : i < q.ms.length) (hpl : place (fun m : MailM => decide (m.p.id = id)) q.ms = (i : Int)) (hfi : x.mails.find? (fun m => decide (m.id = id)) = some q.ms[i].p) (hke : (keysF ks).2 ≠ 0) :
    Calls Tryz.prog 23 #[.pointer (some ⟨g, 0, none⟩), .int .i64 id, vk] w (ErrOut w g q (keysP x id ks)) := by
  have hres : keysP x id ks = (x, (keysF ks).2) := by
    unfold keysP keysK
    rw [hfi]
    simp only
    rw [if_pos hke]
  rw [hres]
  have hmc := h.at_.mc h.fit id
  rw [hpl] at hmc
  have hkc := h.kc
  obtain ⟨A, ca, hvk, _, _⟩ := h.keys.form
  rw [hvk] at hkc ⊢
  have H := Lib.hid h
  generalize keysF ks = kf at hkc hke ⊢
  obtain ⟨kl, ke⟩ := kf
  simp only at hkc hke ⊢
  have HKC := Lib.hid hkc
  have hq : (ke == 0) = false := by simpa using hke
  have hi3 : ¬ (i : Int) < 0 := by omega
  clear hres hpl hfi hvk hkc h hke
  go_enter Tryz.func23, Tryz.ntmps23
  go_wp2_with (first
    | (go_at_call 71; refine hmc.mono ?_; rintro e w1 ⟨rfl, hb1⟩; have hk1 := HKC.out w1 hb1; have HB1 := Lib.hid hb1; clear hb1 hmc)
    | (go_at_call 61; refine hk1.mono ?_; rintro e w2 ⟨Ak, ck, hhk, rfl, _, hbk, _⟩; have HBK := Lib.hid (below_then HB1.out hbk); clear hk1 hbk)
    | fail)
  go_ret
  exact ⟨rfl, q, Turned.of_below H.out.at_ HBK.out⟩

set_option maxRecDepth 100000 in
set_option maxHeartbeats 4000000 in
theorem keys_same (w : World) (g : Nat) (q : Lies) (x : Acc) (id : Int) (ks : Texts) (vk : Value) (Sk : List Nat) (h : KeyIn w g q x ks vk Sk) (i : Nat) (hi : i < q.ms.length) (hpl : place (fun m : MailM => decide (m.p.id = id)) q.ms = (i : Int)) (hfi : x.mails.find? (fun m => decide (m.id = id)) = some q.ms[i].p) (hke : (keysF ks).2 = 0) (hsame : (keysF ks).1 = q.ms[i].p.keys) :
    Calls Tryz.prog 23 #[.pointer (some ⟨g, 0, none⟩), .int .i64 id, vk] w (ErrOut w g q (keysP x id ks)) := by
  have hil : i < x.mails.length := by rw [← h.at_.msLen]; exact hi
  obtain ⟨b, off, cap, hv, hhm, hnc, hcm, hblt, hat⟩ := h.at_.mailAt i hil hi
  have hp0 := h.at_.parts _ (List.getElem_mem hi)
  obtain ⟨m0, hm0⟩ : ∃ m0, q.ms[i] = m0 := ⟨_, rfl⟩
  rw [hm0] at hat hp0 hfi
  obtain ⟨Ak0, ck0, hkv, _, _⟩ := hp0.keys.form
  obtain ⟨Av0, cv0, hmv, _, _⟩ := hp0.mem.form
  have hmc := h.at_.mc h.fit id
  rw [hpl] at hmc
  have hkc := h.kc
  obtain ⟨A, ca, hvk, _, _⟩ := h.keys.form
  rw [hvk] at hkc ⊢
  have c11 : w.cell? ⟨g, 11, none⟩ = some (.slice (some ⟨b, off, none⟩) x.mails.length cap) := h.at_.cell11.trans (by rw [hv])
  have e4 : w.cell? ⟨b, off + i * 8 + 4, none⟩ = some (.slice Ak0 m0.p.keys.length ck0) := ((hat 4 (by omega)).1).trans (by rw [← hkv]; rfl)
  have hkr : ∀ W, Below w.heap.size w W → RdS W [] 1 (.slice Ak0 m0.p.keys.length ck0) m0.p.keys.length (m0.p.keys.map encStr) := fun W hb => by
    rw [← hkv]
    exact (hp0.keys.below hb).sub (fun _ _ _ hm => by cases hm)
  have hk16 : m0.p.keys.length ≤ 16 := (h.fit.mail m0.p (by rw [← h.at_.same, ← hm0]; exact List.mem_map_of_mem (List.getElem_mem hi))).keys
  have hmx : m0.p ∈ x.mails := by rw [← h.at_.same, ← hm0]; exact List.mem_map_of_mem (List.getElem_mem hi)
  have hnme := h.fit.nmem hmx
  have HMX := Lib.hid hmx
  have hgl := h.at_.blk.lt
  obtain ⟨n, hnn⟩ : ∃ n, x.mails.length = n := ⟨_, rfl⟩
  rw [hnn] at c11 hil hnc
  have hi1 : (i : Int) < (n : Int) := by omega
  have hi2 : (0 : Int) ≤ (i : Int) := by omega
  have hi3 : ¬ (i : Int) < 0 := by omega
  have H := Lib.hid h
  have HKR := Lib.hid hkr
  have HV := Lib.hid hv
  have HAT := Lib.hid hat
  have HM0 := Lib.hid hm0
  have HP0 := Lib.hid hp0
  have HNN := Lib.hid hnn
  have HMV := Lib.hid hmv
  have HKV := Lib.hid hkv
  rw [hm0] at hsame
  have hres : keysP x id ks = (x, 0) := by
    unfold keysP keysK
    rw [hfi]
    simp only
    rw [if_neg (by rw [hke]; decide), if_pos hsame]
  rw [hres]
  have hkl : (keysF ks).1.length ≤ 16 := keysF_le ks
  generalize keysF ks = kf at hkc hke hkl hsame
  obtain ⟨kl, ke⟩ := kf
  simp only at hkc hke hkl hsame
  subst hke
  have HKC := Lib.hid hkc
  have HSAME := Lib.hid hsame
  clear hres hfi hsame
  clear hmx hpl hkc hkr hv hat hm0 hp0 hnn hvk hkv hmv h
  go_enter Tryz.func23, Tryz.ntmps23
  go_wp2_with (first
    | (go_at_call 71; refine hmc.mono ?_; rintro e w1 ⟨rfl, hb1⟩; have hk1 := HKC.out w1 hb1; have HB1 := Lib.hid hb1; clear hb1 hmc)
    | (go_at_call 61; refine hk1.mono ?_; rintro e w2 ⟨Ak, ck, hhk, rfl, hsk, hbk, hfk⟩; have hbb := below_then HB1.out hbk; have k11 := (hbb.cell (p := ⟨g, 11, none⟩) hgl).trans c11; have k4 := (hbb.cell (p := ⟨b, off + i * 8 + 4, none⟩) hblt).trans e4; have heq := equalS_any w2 _ _ [] [] kl m0.p.keys (hsk.reads [] (by simp)) (HKR.out w2 hbb) (by omega) (by omega); rw [decide_eq_true HSAME.out] at heq; have HSK := Lib.hid hsk; have HBK := Lib.hid hbb; have HFK : Hid (∀ b, hhk = some b → w.heap.size ≤ b) := Lib.hid (fun b hb => Nat.le_trans HB1.out.size (hfk b hb)); clear hk1 hbk hsk hfk hbb)
    | (go_at_call 76; refine heq.mono ?_; rintro e w3 ⟨rfl, hb3⟩; have HB3 := Lib.hid (below_then HBK.out hb3); clear heq hb3)
    | fail)
  go_ret
  exact ⟨rfl, q, Turned.of_below H.out.at_ HB3.out⟩

set_option maxRecDepth 100000 in
set_option maxHeartbeats 4000000 in
theorem keys_ends (w : World) (g : Nat) (q : Lies) (x : Acc) (id : Int) (ks : Texts) (vk : Value) (Sk : List Nat) (h : KeyIn w g q x ks vk Sk) (i : Nat) (hi : i < q.ms.length) (hpl : place (fun m : MailM => decide (m.p.id = id)) q.ms = (i : Int)) (hfi : x.mails.find? (fun m => decide (m.id = id)) = some q.ms[i].p) (hke : (keysF ks).2 = 0) (hsame : ¬ (keysF ks).1 = q.ms[i].p.keys) (hen : x.cfg.maxMod ≤ x.clock) :
    Calls Tryz.prog 23 #[.pointer (some ⟨g, 0, none⟩), .int .i64 id, vk] w (ErrOut w g q (keysP x id ks)) := by
  have hil : i < x.mails.length := by rw [← h.at_.msLen]; exact hi
  obtain ⟨b, off, cap, hv, hhm, hnc, hcm, hblt, hat⟩ := h.at_.mailAt i hil hi
  have hp0 := h.at_.parts _ (List.getElem_mem hi)
  obtain ⟨m0, hm0⟩ : ∃ m0, q.ms[i] = m0 := ⟨_, rfl⟩
  rw [hm0] at hat hp0 hfi
  obtain ⟨Ak0, ck0, hkv, _, _⟩ := hp0.keys.form
  obtain ⟨Av0, cv0, hmv, _, _⟩ := hp0.mem.form
  have hmc := h.at_.mc h.fit id
  rw [hpl] at hmc
  have hkc := h.kc
  obtain ⟨A, ca, hvk, _, _⟩ := h.keys.form
  rw [hvk] at hkc ⊢
  have c11 : w.cell? ⟨g, 11, none⟩ = some (.slice (some ⟨b, off, none⟩) x.mails.length cap) := h.at_.cell11.trans (by rw [hv])
  have e4 : w.cell? ⟨b, off + i * 8 + 4, none⟩ = some (.slice Ak0 m0.p.keys.length ck0) := ((hat 4 (by omega)).1).trans (by rw [← hkv]; rfl)
  have hkr : ∀ W, Below w.heap.size w W → RdS W [] 1 (.slice Ak0 m0.p.keys.length ck0) m0.p.keys.length (m0.p.keys.map encStr) := fun W hb => by
    rw [← hkv]
    exact (hp0.keys.below hb).sub (fun _ _ _ hm => by cases hm)
  have hk16 : m0.p.keys.length ≤ 16 := (h.fit.mail m0.p (by rw [← h.at_.same, ← hm0]; exact List.mem_map_of_mem (List.getElem_mem hi))).keys
  have hmx : m0.p ∈ x.mails := by rw [← h.at_.same, ← hm0]; exact List.mem_map_of_mem (List.getElem_mem hi)
  have hnme := h.fit.nmem hmx
  have HMX := Lib.hid hmx
  have hgl := h.at_.blk.lt
  obtain ⟨n, hnn⟩ : ∃ n, x.mails.length = n := ⟨_, rfl⟩
  rw [hnn] at c11 hil hnc
  have hi1 : (i : Int) < (n : Int) := by omega
  have hi2 : (0 : Int) ≤ (i : Int) := by omega
  have hi3 : ¬ (i : Int) < 0 := by omega
  have H := Lib.hid h
  have HKR := Lib.hid hkr
  have HV := Lib.hid hv
  have HAT := Lib.hid hat
  have HM0 := Lib.hid hm0
  have HP0 := Lib.hid hp0
  have HNN := Lib.hid hnn
  have HMV := Lib.hid hmv
  have HKV := Lib.hid hkv
  rw [hm0] at hsame
  have hres : keysP x id ks = (x, 11) := by
    unfold keysP keysK
    rw [hfi]
    simp only
    rw [if_neg (by rw [hke]; decide), if_neg hsame, if_pos (by simp [Acc.ends, hen])]
  rw [hres]
  have hkl : (keysF ks).1.length ≤ 16 := keysF_le ks
  generalize keysF ks = kf at hkc hke hkl hsame
  obtain ⟨kl, ke⟩ := kf
  simp only at hkc hke hkl hsame
  subst hke
  have HKC := Lib.hid hkc
  clear hres hfi
  clear hmx hpl hkc hkr hv hat hm0 hp0 hnn hvk hkv hmv h
  go_enter Tryz.func23, Tryz.ntmps23
  go_wp2_with (first
    | (go_at_call 71; refine hmc.mono ?_; rintro e w1 ⟨rfl, hb1⟩; have hk1 := HKC.out w1 hb1; have HB1 := Lib.hid hb1; clear hb1 hmc)
    | (go_at_call 61; refine hk1.mono ?_; rintro e w2 ⟨Ak, ck, hhk, rfl, hsk, hbk, hfk⟩; have hbb := below_then HB1.out hbk; have k11 := (hbb.cell (p := ⟨g, 11, none⟩) hgl).trans c11; have k4 := (hbb.cell (p := ⟨b, off + i * 8 + 4, none⟩) hblt).trans e4; have heq := equalS_any w2 _ _ [] [] kl m0.p.keys (hsk.reads [] (by simp)) (HKR.out w2 hbb) (by omega) (by omega); rw [decide_eq_false hsame] at heq; have HSK := Lib.hid hsk; have HBK := Lib.hid hbb; have HFK : Hid (∀ b, hhk = some b → w.heap.size ≤ b) := Lib.hid (fun b hb => Nat.le_trans HB1.out.size (hfk b hb)); clear hk1 hbk hsk hfk hbb)
    | (go_at_call 76; refine heq.mono ?_; rintro e w3 ⟨rfl, hb3⟩; have HB3 := Lib.hid (below_then HBK.out hb3); have c6 : w3.cell? ⟨g, 6, none⟩ = some (.int .i64 x.cfg.maxMod) := (H.out.at_.later HB3.out).cells 6; have c9 := (H.out.at_.later HB3.out).cell9; clear heq hb3)
    | (go_at_call 63; refine (ends_any g x.clock x.cfg.maxMod _ ((cell_heap (w := w3) (by rfl) _).trans c9) ((cell_heap (w := w3) (by rfl) _).trans c6)).mono ?_; rintro e w4 ⟨rfl, ne, rfl⟩)
    | fail)
  go_ret
  exact ⟨rfl, q, (Turned.of_below H.out.at_ HB3.out).then_below (below_drewN' (Below.refl _ _) _)⟩

set_option maxRecDepth 100000 in
set_option maxHeartbeats 4000000 in
theorem keys_ok (w : World) (g : Nat) (q : Lies) (x : Acc) (id : Int) (ks : Texts) (vk : Value) (Sk : List Nat) (h : KeyIn w g q x ks vk Sk) (i : Nat) (hi : i < q.ms.length) (hpl : place (fun m : MailM => decide (m.p.id = id)) q.ms = (i : Int)) (hfi : x.mails.find? (fun m => decide (m.id = id)) = some q.ms[i].p) (hke : (keysF ks).2 = 0) (hsame : ¬ (keysF ks).1 = q.ms[i].p.keys) (hen : ¬ x.cfg.maxMod ≤ x.clock) (hset : ∀ f, setMail id f x.mails = x.mails.set i (f q.ms[i].p)) :
    Calls Tryz.prog 23 #[.pointer (some ⟨g, 0, none⟩), .int .i64 id, vk] w (ErrOut w g q (keysP x id ks)) := by
  have hil : i < x.mails.length := by rw [← h.at_.msLen]; exact hi
  obtain ⟨b, off, cap, hv, hhm, hnc, hcm, hblt, hat⟩ := h.at_.mailAt i hil hi
  have hp0 := h.at_.parts _ (List.getElem_mem hi)
  obtain ⟨m0, hm0⟩ : ∃ m0, q.ms[i] = m0 := ⟨_, rfl⟩
  rw [hm0] at hat hp0 hfi
  obtain ⟨Ak0, ck0, hkv, _, _⟩ := hp0.keys.form
  obtain ⟨Av0, cv0, hmv, _, _⟩ := hp0.mem.form
  have hmc := h.at_.mc h.fit id
  rw [hpl] at hmc
  have hkc := h.kc
  obtain ⟨A, ca, hvk, _, _⟩ := h.keys.form
  rw [hvk] at hkc ⊢
  have c11 : w.cell? ⟨g, 11, none⟩ = some (.slice (some ⟨b, off, none⟩) x.mails.length cap) := h.at_.cell11.trans (by rw [hv])
  have e4 : w.cell? ⟨b, off + i * 8 + 4, none⟩ = some (.slice Ak0 m0.p.keys.length ck0) := ((hat 4 (by omega)).1).trans (by rw [← hkv]; rfl)
  have hkr : ∀ W, Below w.heap.size w W → RdS W [] 1 (.slice Ak0 m0.p.keys.length ck0) m0.p.keys.length (m0.p.keys.map encStr) := fun W hb => by
    rw [← hkv]
    exact (hp0.keys.below hb).sub (fun _ _ _ hm => by cases hm)
  have hk16 : m0.p.keys.length ≤ 16 := (h.fit.mail m0.p (by rw [← h.at_.same, ← hm0]; exact List.mem_map_of_mem (List.getElem_mem hi))).keys
  have hmx : m0.p ∈ x.mails := by rw [← h.at_.same, ← hm0]; exact List.mem_map_of_mem (List.getElem_mem hi)
  have hnme := h.fit.nmem hmx
  have HMX := Lib.hid hmx
  have hgl := h.at_.blk.lt
  obtain ⟨n, hnn⟩ : ∃ n, x.mails.length = n := ⟨_, rfl⟩
  rw [hnn] at c11 hil hnc
  have hi1 : (i : Int) < (n : Int) := by omega
  have hi2 : (0 : Int) ≤ (i : Int) := by omega
  have hi3 : ¬ (i : Int) < 0 := by omega
  have H := Lib.hid h
  have HKR := Lib.hid hkr
  have HV := Lib.hid hv
  have HAT := Lib.hid hat
  have HM0 := Lib.hid hm0
  have HP0 := Lib.hid hp0
  have HNN := Lib.hid hnn
  have HMV := Lib.hid hmv
  have HKV := Lib.hid hkv
  rw [hm0] at hsame hset
  obtain ⟨rr, hrr⟩ : ∃ rr, keysP x id ks = rr := ⟨_, rfl⟩
  rw [hrr]
  obtain ⟨is, his⟩ : ∃ is, is = if decide (seenT ∈ (keysF ks).1) ≠ decide (seenT ∈ m0.p.keys) then ids1 m0.p.members else [] := ⟨_, rfl⟩
  have hres : rr = ({ x with clock := x.clock + 1, boxes := turnBoxes (x.clock + 1) (rise is) x.boxes, mails := x.mails.set i { m0.p with keys := (keysF ks).1, mod := x.clock + 1 }, log := x.log.add (turnEnts (x.clock + 1) (rise is) ++ [⟨x.clock + 1, 2, id, 2⟩]) }, 0) := by
    rw [← hrr]
    unfold keysP keysK
    rw [hfi]
    simp only
    rw [if_neg (by rw [hke]; decide), if_neg hsame, if_neg (by simp [Acc.ends]; omega), hset, his]
    by_cases hs : decide (seenT ∈ (keysF ks).1) = decide (seenT ∈ m0.p.keys)
    · rw [if_neg (by simpa using hs), if_neg (by simpa using hs)]
      rfl
    · rw [if_pos hs, if_pos hs]
      rfl
  have hkl : (keysF ks).1.length ≤ 16 := keysF_le ks
  generalize keysF ks = kf at hkc hke hkl hsame hres his
  obtain ⟨kl, ke⟩ := kf
  simp only at hkc hke hkl hsame hres his
  subst hke
  have HKC := Lib.hid hkc
  have HRES := Lib.hid hres
  have HIS := Lib.hid his
  have hcl := H.out.fit.clock
  have hmo := H.out.fit.cfg.mod
  clear hres hrr hset hfi his
  clear hmx hpl hkc hkr hv hat hm0 hp0 hnn hvk hkv hmv h
  go_enter Tryz.func23, Tryz.ntmps23
  go_upto_region 15 with (first
    | (go_at_call 71; refine hmc.mono ?_; rintro e w1 ⟨rfl, hb1⟩; have hk1 := HKC.out w1 hb1; have HB1 := Lib.hid hb1; clear hb1 hmc)
    | (go_at_call 61; refine hk1.mono ?_; rintro e w2 ⟨Ak, ck, hhk, rfl, hsk, hbk, hfk⟩; have hbb := below_then HB1.out hbk; have k11 := (hbb.cell (p := ⟨g, 11, none⟩) hgl).trans c11; have k4 := (hbb.cell (p := ⟨b, off + i * 8 + 4, none⟩) hblt).trans e4; have heq := equalS_any w2 _ _ [] [] kl m0.p.keys (hsk.reads [] (by simp)) (HKR.out w2 hbb) (by omega) (by omega); rw [decide_eq_false hsame] at heq; have HSK := Lib.hid hsk; have HBK := Lib.hid hbb; have HFK : Hid (∀ b, hhk = some b → w.heap.size ≤ b) := Lib.hid (fun b hb => Nat.le_trans HB1.out.size (hfk b hb)); clear hk1 hbk hsk hfk hbb)
    | (go_at_call 76; refine heq.mono ?_; rintro e w3 ⟨rfl, hb3⟩; have HB3 := Lib.hid (below_then HBK.out hb3); have c6 : w3.cell? ⟨g, 6, none⟩ = some (.int .i64 x.cfg.maxMod) := (H.out.at_.later HB3.out).cells 6; have c9 := (H.out.at_.later HB3.out).cell9; have HSK3 := Lib.hid (HSK.out.keep (fun b hb => hb3.block b (HSK.out.lt b hb))); clear heq hb3)
    | (go_at_call 63; refine (ends_any g x.clock x.cfg.maxMod _ ((cell_heap (w := w3) (by rfl) _).trans c9) ((cell_heap (w := w3) (by rfl) _).trans c6)).mono ?_; rintro e w4 ⟨rfl, ne, rfl⟩; have hb5 := (below_then HB3.out (below_drewN' (Below.refl w3.heap.size w3) ne)); have H5 := Lib.hid (H.out.at_.later hb5); have hst5 := step_any g x.clock _ H5.out.cell9 (H5.out.frozen 9) (by omega); have HB5 := Lib.hid hb5; clear hb5)
    | (go_at_call 66; refine hst5.mono ?_; rintro e w6 ⟨rfl, hw6⟩; have t6 := H5.out.setStruct 9 (.int .i64 (x.clock + 1)) { x with clock := x.clock + 1 } rfl rfl rfl rfl; rw [← hw6] at t6; have m11 := t6.at_.cell11; rw [HV.out, HNN.out] at m11; have HSK6 : Hid (Sl w6 9 1 (.slice Ak kl.length ck) hhk kl.length (kl.map encStr)) := Lib.hid (by rw [hw6]; exact (HSK3.out.heap (by rfl)).far (p := ⟨g, 9, none⟩) (fun e => absurd (HFK.out g e) (by omega)) _); have T6 := Lib.hid ((Turned.of_below H.out.at_ HB5.out).trans t6); clear hst5 hw6 t6)
    | fail)
  clear c6 c9 c11 e4 hgl hblt
  go_upto_region 16 with (fail)
  obtain ⟨s1, hs1⟩ : ∃ s1, decide (seenT ∈ kl) = s1 := ⟨_, rfl⟩
  obtain ⟨s2, hs2⟩ : ∃ s2, decide (seenT ∈ m0.p.keys) = s2 := ⟨_, rfl⟩
  have hisv : is = if s1 = s2 then [] else ids1 m0.p.members := by
    rw [HIS.out, hs1, hs2]
    cases s1 <;> cases s2 <;> rfl
  have hst6 := T6.out.at_
  obtain ⟨b', off', cap', hv', _, _, _, hblt, hat6⟩ := hst6.mailAt i (by show i < x.mails.length; rw [HNN.out]; exact hil) hi
  rw [HV.out] at hv'
  injection hv' with hv1 _ hv3
  injection hv1 with hv1
  injection hv1 with hv1 hv2
  subst hv1 hv2 hv3
  rw [HM0.out] at hat6
  have hp6 : PartAt w6 (q.own g) m0 := by
    rw [← HM0.out]
    exact hst6.parts _ (List.getElem_mem hi)
  have hkv6 : m0.kv = .slice Ak0 m0.p.keys.length ck0 := by
    have h1 := HP0.out.keys
    exact HKV.out
  have a4 : w6.cell? ⟨b, off + i * 8 + 4, none⟩ = some (.slice Ak0 m0.p.keys.length ck0) := ((hat6 4 (by omega)).1).trans (by rw [← hkv6]; rfl)
  have hc1 : ∀ W, W.heap = w6.heap → Calls Tryz.prog 77 #[.slice Ak kl.length ck, .string ⟨#[36, 115, 101, 101, 110]⟩] W fun e w' => e = .returned (.bool s1) ∧ W = w' := fun W he => by
    rw [← hs1]
    exact hasS_any W _ [] kl seenT ((HSK6.out.heap he).reads [] (by simp)) (by omega)
  have hc2 : ∀ W, W.heap = w6.heap → Calls Tryz.prog 77 #[.slice Ak0 m0.p.keys.length ck0, .string ⟨#[36, 115, 101, 101, 110]⟩] W fun e w' => e = .returned (.bool s2) ∧ W = w' := fun W he => by
    rw [← hs2, ← hkv6]
    exact hasS_any W _ (q.own g) m0.p.keys seenT (hp6.keys.keep (Nat.le_of_eq (by rw [he])) (fun b _ _ => by rw [he]) (fun _ _ h => h)) (by omega)
  have HC1 := Lib.hid hc1
  have HC2 := Lib.hid hc2
  have HISV := Lib.hid hisv
  have HAT6 := Lib.hid hat6
  have HP6 := Lib.hid hp6
  clear hc1 hc2 hisv hat6 hp6 hst6 hs1 hs2 hkv6
  go_cut [58] (fun v wx => ∃ bd : Bool, v = .bool bd ∧ Hid (bd = (s1 != s2)) ∧ Hid (Below w6.heap.size w6 wx))
  case first =>
    cases s1 <;> cases s2
    all_goals
      go_region_with (first
        | (go_at_call 77; refine (HC1.out _ (by rfl)).mono ?_; rintro e w7 ⟨rfl, rfl⟩)
        | (go_at_call 77; refine (HC2.out _ (by rfl)).mono ?_; rintro e w7 ⟨rfl, rfl⟩)
        | fail)
      all_goals
        go_wp2_with fail
        go_meet
        exact ⟨_, rfl, Lib.hid rfl, Lib.hid ⟨rfl, rfl, rfl, Nat.le_refl _, fun _ _ => rfl⟩⟩
  case rest =>
    obtain ⟨bd, rfl, HBD, HB7⟩ := hcut
    obtain ⟨w7, rfl⟩ : ∃ w7 : World, w7 = wc := ⟨_, rfl⟩
    have b0 : w7.cell? ⟨b, off + i * 8, none⟩ = some (.int .i64 m0.p.id) := (HB7.out.cell hblt).trans (HAT6.out 0 (by omega)).1
    have b1 : w7.cell? ⟨b, off + i * 8 + 1, none⟩ = some (.int .i64 m0.p.thread) := (HB7.out.cell hblt).trans (HAT6.out 1 (by omega)).1
    have b2 : w7.cell? ⟨b, off + i * 8 + 2, none⟩ = some (.string ⟨m0.p.text.toArray⟩) := (HB7.out.cell hblt).trans (HAT6.out 2 (by omega)).1
    have b3 : w7.cell? ⟨b, off + i * 8 + 3, none⟩ = some (.int .i64 m0.p.at_) := (HB7.out.cell hblt).trans (HAT6.out 3 (by omega)).1
    have b4 : w7.cell? ⟨b, off + i * 8 + 4, none⟩ = some (.slice Ak0 m0.p.keys.length ck0) := (HB7.out.cell hblt).trans a4
    have b5 : w7.cell? ⟨b, off + i * 8 + 5, none⟩ = some (.slice Av0 m0.p.members.length cv0) := (HB7.out.cell hblt).trans ((HAT6.out 5 (by omega)).1.trans (by rw [← HMV.out]; rfl))
    have b6 : w7.cell? ⟨b, off + i * 8 + 6, none⟩ = some (.int .i64 m0.p.mod) := (HB7.out.cell hblt).trans (HAT6.out 6 (by omega)).1
    have b7 : w7.cell? ⟨b, off + i * 8 + 7, none⟩ = some (.int .i64 m0.p.born) := (HB7.out.cell hblt).trans (HAT6.out 7 (by omega)).1
    have hwi := within_any w7 m0.p.id m0.p.thread m0.p.at_ m0.p.mod m0.p.born ⟨m0.p.text.toArray⟩ (.slice Ak0 m0.p.keys.length ck0) (.slice Av0 m0.p.members.length cv0) m0.p.members (by
      rw [← HMV.out]
      exact HP6.out.mem.keep HB7.out.size (fun b hb _ => HB7.out.block b hb) (fun _ _ _ hm => by cases hm)) (by omega)
    have HWI := Lib.hid hwi
    clear hwi
    go_upto_if 58 with (fail)
    go_cut [12] (fun v wx => ∃ A3 n3 p3, v = .slice A3 n3 p3 ∧ Hid (n3 = is.length) ∧ Hid (∃ h3, Sl wx 3 1 (.slice A3 n3 p3) h3 n3 (is.map encI) ∧ ∀ b, h3 = some b → w6.heap.size ≤ b) ∧ Hid (Below w6.heap.size w6 wx))
    case first =>
      cases bd with
      | false =>
        have hi0 := HISV.out
        rw [if_pos (by have h := HBD.out; cases s1 <;> cases s2 <;> first | rfl | exact absurd h (by decide))] at hi0
        have HI0 := Lib.hid hi0
        clear hi0
        go_wp2_with fail
        go_meet
        exact ⟨none, 0, 0, rfl, Lib.hid (by rw [HI0.out]; rfl), Lib.hid ⟨none, by rw [HI0.out]; exact Sl.nil _ _ _, fun b hb => by cases hb⟩, HB7⟩
      | true =>
        have hi0 := HISV.out
        rw [if_neg (by have h := HBD.out; cases s1 <;> cases s2 <;> first | decide | exact absurd h (by decide))] at hi0
        have HI0 := Lib.hid hi0
        clear hi0
        go_upto_region 15 with (first
          | (go_at_call 75; go_loud (refine HWI.out.mono ?_); rintro e w8 ⟨v8, h8, rfl, hs8, hf8, hb8⟩; obtain ⟨A8, c8, rfl, _, _⟩ := hs8.form; have HS8 := Lib.hid hs8; have HF8 := Lib.hid hf8; have HB8 := Lib.hid hb8; clear hs8 hf8 hb8)
          | fail)
        go_meet
        exact ⟨A8, m0.p.members.length, c8, rfl, Lib.hid (by rw [HI0.out]; simp [ids1]), Lib.hid ⟨h8, by rw [HI0.out]; exact HS8.out, fun b hb => Nat.le_trans HB7.out.size (HF8.out b hb)⟩, Lib.hid (below_then HB7.out HB8.out)⟩
    case rest =>
      obtain ⟨A3, n3, p3, rfl, HN3, HS3, HB8⟩ := hcut
      obtain ⟨wh, rfl⟩ : ∃ wh : World, wh = wc := ⟨_, rfl⟩
      obtain ⟨h3, hs3, hf3⟩ := HS3.out
      have hTh := T6.out.then_below HB8.out
      have hvh := HV.out
      rw [HNN.out] at hvh
      have hmg : ∀ j, j < 8 → wh.frozen? ⟨b, off + i * 8 + j, none⟩ = false := fun j hj => by
        obtain ⟨b', off', cap', hv', _, _, _, _, hat'⟩ := hTh.at_.mailAt i (by show i < x.mails.length; rw [HNN.out]; exact hil) hi
        rw [HV.out] at hv'
        injection hv' with hv1 _ hv3
        injection hv1 with hv1
        injection hv1 with hv1 hv2
        subst hv1 hv2
        exact (hat' j hj).2
      have g4 := hmg 4 (by omega)
      have g6 := hmg 6 (by omega)
      have r4 := (HB8.out.cell (p := ⟨b, off + i * 8 + 4, none⟩) hblt).trans a4
      have r6 : wh.cell? ⟨b, off + i * 8 + 6, none⟩ = some (.int .i64 m0.p.mod) := (HB8.out.cell (p := ⟨b, off + i * 8 + 6, none⟩) hblt).trans (HAT6.out 6 (by omega)).1
      have HSKh : Hid (Sl wh 9 1 (.slice Ak kl.length ck) hhk kl.length (kl.map encStr)) := Lib.hid (HSK6.out.keep (fun b hb => HB8.out.block b (HSK6.out.lt b hb)))
      have HTH := Lib.hid hTh
      have HS3b := Lib.hid hs3
      have HF3 := Lib.hid hf3
      clear hTh hs3 hf3 hmg b0 b1 b2 b3 b4 b5 b6 b7 HWI
      go_upto_region 19 with (fail)
      obtain ⟨wg, hwg⟩ : ∃ wg : World, wg = (wh.setCell ⟨b, off + i * 8 + 4, none⟩ (.slice Ak kl.length ck)).setCell ⟨b, off + i * 8 + 6, none⟩ (.int .i64 (x.clock + 1)) := ⟨_, rfl⟩
      rw [← hwg]
      have hpn : PartAt wh (q.own g) ⟨{ m0.p with keys := kl }, .slice Ak kl.length ck, m0.mv⟩ := by
        refine ⟨HSKh.out.reads _ (fun b hb hm => ?_), ?_, HSKh.out.ty, ?_⟩
        · have h1 := H.out.at_.lt b hm
          have h2 := HFK.out b hb
          omega
        · have h1 := HTH.out.at_.parts _ (List.getElem_mem hi)
          rw [HM0.out] at h1
          exact h1.mem
        · have h1 := HTH.out.at_.parts _ (List.getElem_mem hi)
          rw [HM0.out] at h1
          exact h1.tm
      have t9 := HTH.out.at_.setMailCell (b := b) (off := off) (n := n) (cap := cap) hvh i (by show i < x.mails.length; rw [HNN.out]; exact hil) hi 4 (by omega) (.slice Ak kl.length ck) ⟨{ m0.p with keys := kl }, .slice Ak kl.length ck, m0.mv⟩ (by rw [HM0.out]; rfl) hpn
      have hi9 : i < (q.ms.set i ⟨{ m0.p with keys := kl }, .slice Ak kl.length ck, m0.mv⟩).length := by simpa using hi
      have t10 := t9.at_.setMailCell (b := b) (off := off) (n := n) (cap := cap) hvh i (by show i < (x.mails.set i _).length; rw [List.length_set, HNN.out]; exact hil) hi9 6 (by omega) (.int .i64 (x.clock + 1)) ⟨{ m0.p with keys := kl, mod := x.clock + 1 }, .slice Ak kl.length ck, m0.mv⟩ (by rw [List.getElem_set_self]; rfl) ⟨(t9.at_.parts _ (List.getElem_mem hi9) |> fun h => by rw [List.getElem_set_self] at h; exact h.keys), (t9.at_.parts _ (List.getElem_mem hi9) |> fun h => by rw [List.getElem_set_self] at h; exact h.mem), (t9.at_.parts _ (List.getElem_mem hi9) |> fun h => by rw [List.getElem_set_self] at h; exact h.tk), (t9.at_.parts _ (List.getElem_mem hi9) |> fun h => by rw [List.getElem_set_self] at h; exact h.tm)⟩
      rw [← hwg] at t10
      have hTg := (HTH.out.trans t9).trans t10
      simp only [List.set_set] at hTg
      obtain ⟨q3, hq3⟩ : ∃ q3 : Lies, q3 = { q with ms := q.ms.set i ⟨{ m0.p with keys := kl, mod := x.clock + 1 }, .slice Ak kl.length ck, m0.mv⟩ } := ⟨_, rfl⟩
      obtain ⟨x3, hx3⟩ : ∃ x3 : Acc, x3 = { x with clock := x.clock + 1, mails := x.mails.set i { m0.p with keys := kl, mod := x.clock + 1 } } := ⟨_, rfl⟩
      have hTg2 : Turned w wg g q x3 q3 := by
        rw [hx3, hq3]
        exact hTg
      have hsg : Sl wg 3 1 (.slice A3 n3 p3) h3 n3 (is.map encI) := by
        rw [hwg]
        have hne : h3 ≠ some b := fun e => by
          have h1 := HF3.out b e
          omega
        exact (HS3b.out.far (p := ⟨b, off + i * 8 + 4, none⟩) hne _).far (p := ⟨b, off + i * 8 + 6, none⟩) hne _
      have hb3 : x3.boxes = x.boxes := by rw [hx3]
      have hl3 : x3.log = x.log := by rw [hx3]
      have hisn : is.length ≤ 4294967296 := by
        rw [HISV.out]
        split
        · simp
        · simpa [ids1] using hnme
      have hisb : ∀ j ∈ is, j ∈ ids x.boxes := by
        rw [HISV.out]
        split
        · simp
        · exact H.out.fit.memIn HMX.out
      have hbl : x.boxes.length ≤ 1099511627776 := by
        have := H.out.fit.nb
        omega
      have htu : ∀ W, Below wg.heap.size wg W → Calls Tryz.prog 70 #[.pointer (some ⟨g, 0, none⟩), .int .i64 (x.clock + 1), .slice A3 n3 p3] W fun e w' => ∃ v' hh, e = .returned v' ∧ Sl w' 144 4 v' hh (rise is).length (flatE (turnEnts (x.clock + 1) (rise is))) ∧ (∀ b, hh = some b → W.heap.size ≤ b) ∧ Turned W w' g q3 { x3 with boxes := turnBoxes (x.clock + 1) (rise is) x3.boxes } q3 := fun W hb => by
        have h2 : Sl W 3 1 (.slice A3 n3 p3) h3 n3 (is.map encI) := hsg.keep (fun b hb2 => hb.block b (hsg.lt b hb2))
        have h3 : RdS W [] 1 (.slice A3 n3 p3) is.length (is.map encI) := by
          rw [← HN3.out]
          exact h2.reads [] (by simp)
        exact turned_any W g q3 x3 (hTg2.at_.later hb) (by rw [hb3]; exact hbl) (x.clock + 1) is (.slice A3 n3 p3) [] h3 (by omega) (by rw [hb3]; exact hisb)
      have hlogm : 1 ≤ x3.log.most ∧ x3.log.most ≤ 1099511627776 ∧ x3.log.es.length ≤ 1099511627776 := by
        rw [hl3]
        have h1 := H.out.fit.log
        have h2 := H.out.fit.cfg.log
        rw [h1.1]
        omega
      have hne : (rise is).length ≤ 4294967296 := Nat.le_trans (rise_length is) hisn
      have HTG := Lib.hid hTg2
      have HTU := Lib.hid htu
      have HLOG := Lib.hid hlogm
      have HX3 := Lib.hid hx3
      clear hpn t9 hi9 t10 hTg hq3 hTg2 hsg hb3 hl3 hisb hbl htu hlogm hx3 hwg g4 g6 r4 r6
      go_cut [] (fun wx => ∃ q'', Hid (Turned w wx g q { { x3 with boxes := turnBoxes (x.clock + 1) (rise is) x3.boxes } with log := x3.log.add (turnEnts (x.clock + 1) (rise is) ++ [⟨x.clock + 1, 2, id, 2⟩]) } q''))
      case first =>
        refine keys_tell wg g q3 x3 { x3 with boxes := turnBoxes (x.clock + 1) (rise is) x3.boxes } (x.clock + 1) id (rise is).length n3 A3 p3 (turnEnts (x.clock + 1) (rise is)) _ _ _ _ _ _ _ _ _ _ _ _ _ _ _ _ _ _ _ _ _ _ _ _ _ _ _ _ _ _ _ _ _ _ _ _ _ _ _ _ _ _ _ _ _ _ _ _ _ _ _ _ _ _ _ _ _ _ _ _ _ _ _ _ _ _ _ _ _ _ _ _ _ _ _ _ _ _ _ _ _ _ _ _ HTG.out.at_ (turnEnts_length _ _) hne HLOG.out HTU.out ?_
        intro v71 v72 v73 v74 v75 v76 v77 v78 v79 v80 v81 v82 v83 v84 wx q10 ht10
        have HT10 := Lib.hid (HTG.out.trans ht10)
        clear ht10
        go_wp2_with fail
        go_meet
        exact ⟨q10, HT10⟩
      case rest =>
        obtain ⟨q'', HT11⟩ := hcut
        obtain ⟨wz, rfl⟩ : ∃ wz : World, wz = wc := ⟨_, rfl⟩
        have HFIN : Hid (ErrOut w g q rr (.returned (.int .i64 0)) wz) := Lib.hid (by
          rw [HRES.out]
          refine ⟨rfl, q'', ?_⟩
          have h1 := HT11.out
          rw [HX3.out] at h1
          exact h1)
        clear HT11
        go_wp2_with fail
        go_ret
        exact HFIN.out

theorem keys_said (w : World) (g : Nat) (q : Lies) (x : Acc) (id : Int) (ks : Texts) (vk : Value) (Sk : List Nat) (h : KeyIn w g q x ks vk Sk) :
    Calls Tryz.prog 23 #[.pointer (some ⟨g, 0, none⟩), .int .i64 id, vk] w (ErrOut w g q (keysP x id ks)) := by
  by_cases h0 : id ∈ idsMl x.mails
  case neg => exact keys_none w g q x id ks vk Sk h h0
  have h0' : id ∈ idsMl (q.ms.map (·.p)) := by rw [h.at_.same]; exact h0
  obtain ⟨i, hi, hpl, _, _, hset, hfi⟩ := mail_at h0'
  rw [h.at_.same] at hset hfi
  by_cases h1 : (keysF ks).2 = 0
  case neg => exact keys_bad w g q x id ks vk Sk h i hi hpl hfi h1
  by_cases h2 : (keysF ks).1 = q.ms[i].p.keys
  · exact keys_same w g q x id ks vk Sk h i hi hpl hfi h1 h2
  by_cases h3 : x.cfg.maxMod ≤ x.clock
  · exact keys_ends w g q x id ks vk Sk h i hi hpl hfi h1 h2 h3
  · exact keys_ok w g q x id ks vk Sk h i hi hpl hfi h1 h2 h3 hset


end Go.Proofs.YtgkfknbhkonfdaaGreatDoor
