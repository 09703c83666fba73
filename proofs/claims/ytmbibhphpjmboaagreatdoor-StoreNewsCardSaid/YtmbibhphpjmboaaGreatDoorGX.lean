/-
  The plain law of StoreRefuses: each step leaves the account as it was, or has the clock go on by one and refuses nothing.
  The plain law of StoreUids: a number that was given in a mailbox is never another email's.
  The plain law of StoreLogs: what a step adds to the log, and what a Since across it tells.
  The plain law of StoreLogs, step by step.
-/
import Derived.Test.YtmbibhphpjmboaaGreatDoorGC
namespace Go.Proofs.YtmbibhphpjmboaaGreatDoor

/-- An account and an error behind a step. -/
def Stepped (x x' : Acc) (e : Int) : Prop := x' = x ∨ (e = 0 ∧ x'.clock = x.clock + 1)

theorem makeP_step (right : Text → Bool) (x : Acc) (name : Text) (parent : Int) : Stepped x (makeP right x name parent).1 (makeP right x name parent).2.2 := by
  unfold makeP
  split
  · exact .inl rfl
  · split
    · exact .inl rfl
    · split
      · exact .inl rfl
      · exact .inr ⟨rfl, rfl⟩
theorem renameP_step (right : Text → Bool) (x : Acc) (id : Int) (name : Text) (parent : Int) : Stepped x (renameP right x id name parent).1 (renameP right x id name parent).2 := by
  unfold renameP
  split
  · exact .inl rfl
  · split
    · exact .inl rfl
    · split
      · exact .inl rfl
      · split
        · exact .inl rfl
        · split
          · exact .inl rfl
          · split
            · exact .inl rfl
            · exact .inr ⟨rfl, rfl⟩
theorem dropP_step (x : Acc) (id : Int) : Stepped x (dropP x id).1 (dropP x id).2 := by
  unfold dropP
  split
  · exact .inl rfl
  · split
    · exact .inl rfl
    · split
      · exact .inl rfl
      · split
        · exact .inl rfl
        · exact .inr ⟨rfl, rfl⟩
theorem appendP_step (head : Text → Text → Text) (x : Acc) (boxes : List Int) (keys : List Text) (at_ : Int) (t : Text) : Stepped x (appendP head x boxes keys at_ t).1 (appendP head x boxes keys at_ t).2.2 := by
  unfold appendP appendK
  split
  · exact .inl rfl
  · split
    · exact .inl rfl
    · split
      · exact .inl rfl
      · split
        · exact .inl rfl
        · split
          · exact .inl rfl
          · exact .inr ⟨rfl, rfl⟩
theorem keysP_step (x : Acc) (id : Int) (keys : List Text) : Stepped x (keysP x id keys).1 (keysP x id keys).2 := by
  unfold keysP keysK
  split
  · exact .inl rfl
  · split
    · exact .inl rfl
    · split
      · exact .inl rfl
      · split
        · exact .inl rfl
        · exact .inr ⟨rfl, rfl⟩
theorem placeP_step (x : Acc) (id : Int) (boxes : List Int) : Stepped x (placeP x id boxes).1 (placeP x id boxes).2 := by
  unfold placeP
  split
  · exact .inl rfl
  · split
    · exact .inl rfl
    · split
      · exact .inl rfl
      · simp only []
        split
        · exact .inl rfl
        · split
          · exact .inl rfl
          · exact .inr ⟨rfl, rfl⟩
theorem destroyP_step (x : Acc) (id : Int) : Stepped x (destroyP x id).1 (destroyP x id).2 := by
  unfold destroyP
  split
  · exact .inl rfl
  · split
    · exact .inl rfl
    · exact .inr ⟨rfl, rfl⟩

/-- What the statement asks of a step. -/
theorem Stepped.law {x x' : Acc} {e : Int} (h : Stepped x x' e) : (x'.clock = x.clock ∨ x'.clock = x.clock + 1) ∧ (e ≠ 0 → x'.clock = x.clock) ∧ (x'.clock = x.clock → x' = x) := by
  rcases h with rfl | ⟨h1, h2⟩
  · exact ⟨.inl rfl, fun _ => rfl, fun _ => rfl⟩
  · exact ⟨.inr h2, fun h => absurd h1 h, fun h => by omega⟩

end Go.Proofs.YtmbibhphpjmboaaGreatDoor

namespace Go.Proofs.YtmbibhphpjmboaaGreatDoor

/-- How an account goes on: mailboxes' numbers grow, new mailboxes have new Ids, a new member has its mailbox's next number, and only one email gets such. -/
structure Evo (x x' : Acc) : Prop where
  last : x.lastBox ≤ x'.lastBox
  next : ∀ i ∈ ids x'.boxes, i ∈ ids x.boxes → nextOf x.boxes i ≤ nextOf x'.boxes i
  newb : ∀ i ∈ ids x'.boxes, i ∉ ids x.boxes → x.lastBox < i
  mem : ∃ one : Int, ∀ m' ∈ x'.mails, ∀ p ∈ m'.members, (∃ m ∈ x.mails, m.id = m'.id ∧ p ∈ m.members) ∨ (m'.id = one ∧ p.1 ∈ ids x.boxes ∧ p.2 = nextOf x.boxes p.1)

theorem Evo.refl (x : Acc) : Evo x x := ⟨Int.le_refl _, fun _ _ _ => Int.le_refl _, fun _ h h' => absurd h h', 0, fun m hm _ hp => .inl ⟨m, hm, rfl, hp⟩⟩
/-- .. where mailboxes step, and the emails are a part of those that were. -/
theorem Evo.of_step {c : CfgP} {x x' : Acc} (hl : x'.lastBox = x.lastBox) (hs : BoxStep c x.boxes x'.boxes) (hm : ∀ m' ∈ x'.mails, ∃ m ∈ x.mails, m.id = m'.id ∧ ∀ p ∈ m'.members, p ∈ m.members) : Evo x x' :=
  ⟨by rw [hl]; exact Int.le_refl _, fun i _ _ => hs.next i, fun i h h' => absurd (by rw [hs.ids] at h; exact h) h', 0, fun m' hm' p hp => by
    obtain ⟨m, h1, h2, h3⟩ := hm m' hm'
    exact .inl ⟨m, h1, h2, h3 p hp⟩⟩

theorem makeP_evo (right : Text → Bool) (x : Acc) (name : Text) (parent : Int) : Evo x (makeP right x name parent).1 := by
  unfold makeP
  split
  · exact Evo.refl x
  · split
    · exact Evo.refl x
    · split
      · exact Evo.refl x
      · refine ⟨by show x.lastBox ≤ x.lastBox + 1; omega, fun i _ hi => ?_, fun i hi hn => ?_, 0, fun m hm p hp => .inl ⟨m, hm, rfl, hp⟩⟩
        · show nextOf x.boxes i ≤ nextOf (x.boxes ++ [_]) i
          rw [nextOf_append hi]
          exact Int.le_refl _
        · have hi' : i ∈ ids (x.boxes ++ [(⟨x.lastBox + 1, name, parent, x.clock + 1, 1, x.clock + 1⟩ : BoxP)]) := hi
          unfold ids at hi'
          rw [List.map_append, List.mem_append] at hi'
          rcases hi' with h1 | h1
          · exact absurd h1 hn
          · have : i = x.lastBox + 1 := by simpa using h1
            omega
theorem renameP_evo (right : Text → Bool) (hr : ∀ t, right t = true → t.length ≤ 64) {x : Acc} (h : Fit x) (id : Int) (name : Text) (parent : Int) : Evo x (renameP right x id name parent).1 := by
  unfold renameP
  split
  · exact Evo.refl x
  · split
    · exact Evo.refl x
    · rename_i hright
      split
      · exact Evo.refl x
      · split
        · exact Evo.refl x
        · split
          · exact Evo.refl x
          · split
            · exact Evo.refl x
            · have hlen : name.length ≤ 64 := hr name (by
                have : ¬ right name = false := fun e => hright (.inl e)
                simpa using this)
              have hs1 := boxStep_set x.cfg id name parent hlen x.boxes h.idsB
              have hs2 := boxStep_turn x.cfg (x.clock + 1) [id] _ (show (ids (setBox id (fun b => { b with name := name, parent := parent }) x.boxes)).Nodup by rw [hs1.ids]; exact h.idsB)
              exact Evo.of_step (c := x.cfg) rfl (hs1.trans hs2) fun m hm => ⟨m, hm, rfl, fun p hp => hp⟩
theorem not_ids_eraseP {id : Int} : ∀ l : List BoxP, (ids l).Nodup → id ∉ ids (l.eraseP fun b => decide (b.id = id))
  | [], _ => by simp [ids]
  | b :: r, h => by
    have h' : b.id ∉ ids r ∧ (ids r).Nodup := by simpa [ids] using h
    by_cases hb : b.id = id
    · rw [List.eraseP_cons_of_pos (by simpa using hb), ← hb]
      exact h'.1
    · rw [List.eraseP_cons_of_neg (by simpa using hb)]
      have ih := not_ids_eraseP (id := id) r h'.2
      intro hm
      have hm' : id = b.id ∨ id ∈ ids (r.eraseP fun b => decide (b.id = id)) := by simpa [ids] using hm
      rcases hm' with h1 | h1
      · exact hb h1.symm
      · exact ih h1
theorem dropP_evo {x : Acc} (h : Fit x) (id : Int) : Evo x (dropP x id).1 := by
  unfold dropP
  split
  · exact Evo.refl x
  · rename_i hhas
    split
    · exact Evo.refl x
    · split
      · exact Evo.refl x
      · split
        · exact Evo.refl x
        · have hany : x.boxes.any (fun b => decide (b.id = id)) = true := by
            have : ¬ hasBox x.boxes id = false := hhas
            simpa [hasBox] using this
          have he : x.boxes.eraseIdx (boxOf id x.boxes).toNat = x.boxes.eraseP fun b => decide (b.id = id) := eraseIdx_place _ _ hany
          have hsub := List.eraseP_sublist (l := x.boxes) (p := fun b => decide (b.id = id))
          simp only [he]
          refine ⟨Int.le_refl _, fun i hi _ => ?_, fun i hi hn => ?_, 0, fun m hm p hp => .inl ⟨m, hm, rfl, hp⟩⟩
          · show nextOf x.boxes i ≤ nextOf (x.boxes.eraseP _) i
            by_cases hii : i = id
            · subst hii
              exact absurd hi (not_ids_eraseP x.boxes h.idsB)
            · rw [nextOf_eraseP hii]
              exact Int.le_refl _
          · exact absurd ((hsub.map (·.id)).subset hi) hn

theorem destroyP_evo {x : Acc} (h : Fit x) (id : Int) : Evo x (destroyP x id).1 := by
  unfold destroyP
  split
  · exact Evo.refl x
  · rename_i m hm
    split
    · exact Evo.refl x
    · have hany : x.mails.any (fun m => decide (m.id = id)) = true := List.any_eq_true.2 ⟨m, List.mem_of_find?_eq_some hm, List.find?_some (p := fun m : MailP => decide (m.id = id)) hm⟩
      have he : x.mails.eraseIdx (mailOf id x.mails).toNat = x.mails.eraseP fun m => decide (m.id = id) := eraseIdx_place _ _ hany
      have hsub := List.eraseP_sublist (l := x.mails) (p := fun m => decide (m.id = id))
      simp only [he]
      exact Evo.of_step (c := x.cfg) rfl (boxStep_turn x.cfg (x.clock + 1) _ x.boxes h.idsB) fun a ha => ⟨a, hsub.subset ha, rfl, fun p hp => hp⟩
theorem keysP_evo {x : Acc} (h : Fit x) (id : Int) (keys : List Text) : Evo x (keysP x id keys).1 := by
  unfold keysP keysK
  split
  · exact Evo.refl x
  · split
    · exact Evo.refl x
    · split
      · exact Evo.refl x
      · split
        · exact Evo.refl x
        · refine Evo.of_step (c := x.cfg) rfl (boxStep_turn x.cfg (x.clock + 1) _ x.boxes h.idsB) fun a ha => ?_
          rcases mem_setMail ha with ha | ⟨b, hb, rfl⟩
          · exact ⟨a, ha, rfl, fun p hp => hp⟩
          · exact ⟨b, List.mem_of_find?_eq_some hb, rfl, fun p hp => hp⟩
theorem appendP_evo (head : Text → Text → Text) {x : Acc} (h : Fit x) (boxes : List Int) (keys : List Text) (at_ : Int) (t : Text) : Evo x (appendP head x boxes keys at_ t).1 := by
  unfold appendP appendK
  split
  · exact Evo.refl x
  · split
    · exact Evo.refl x
    · split
      · exact Evo.refl x
      · rename_i hhas
        split
        · exact Evo.refl x
        · split
          · exact Evo.refl x
          · rename_i hend
            simp only [Bool.or_eq_true, not_or, Bool.not_eq_true] at hend
            have hhas' : (rise boxes).any (fun id => !hasBox x.boxes id) = false := by simpa using hhas
            have hspent : ∀ i ∈ rise boxes, nextOf x.boxes i ≤ x.cfg.maxUid := by
              intro i hi
              have h1 : ¬ x.spent i = true := fun h2 => by
                have h3 := List.any_eq_true.2 ⟨i, hi, h2⟩
                rw [hend.2] at h3
                cases h3
              have h4 : ¬ x.cfg.maxUid < nextOf x.boxes i := by simpa [Acc.spent] using h1
              omega
            have hnum := numbers_eq (rise boxes) x.boxes h.idsB (rise_nodup boxes)
            have hs1 : BoxStep x.cfg x.boxes (bumpAll (rise boxes) x.boxes) := boxStep_bump _ _ _ fun b hb hi => by
              have := hspent _ hi
              rwa [nextOf_mem h.idsB hb] at this
            have hs2 : BoxStep x.cfg (bumpAll (rise boxes) x.boxes) (turnBoxes (x.clock + 1) (rise boxes) (bumpAll (rise boxes) x.boxes)) := boxStep_turn _ _ _ _ (by rw [ids_bumpAll]; exact h.idsB)
            have hs := hs1.trans hs2
            simp only [hnum]
            refine ⟨Int.le_refl _, fun i _ _ => hs.next i, fun i hi hn => absurd (by rw [← hs.ids]; exact hi) hn, x.lastId + 1, fun m' hm' p hp => ?_⟩
            rcases List.mem_append.1 hm' with hm' | hm'
            · exact .inl ⟨m', hm', rfl, hp⟩
            · rw [List.mem_singleton] at hm'
              subst hm'
              obtain ⟨i, hi, rfl⟩ := List.mem_map.1 hp
              exact .inr ⟨rfl, hasBox_of_rise hhas' hi, rfl⟩
theorem placeP_evo {x : Acc} (h : Fit x) (id : Int) (boxes : List Int) : Evo x (placeP x id boxes).1 := by
  unfold placeP
  split
  · exact Evo.refl x
  · rename_i m hm
    split
    · exact Evo.refl x
    · split
      · exact Evo.refl x
      · rename_i hhas
        simp only []
        split
        · exact Evo.refl x
        · split
          · exact Evo.refl x
          · rename_i hend
            simp only [Bool.or_eq_true, not_or, Bool.not_eq_true] at hend
            have hhas' : (rise boxes).any (fun id => !hasBox x.boxes id) = false := by simpa using hhas
            have hmm := List.mem_of_find?_eq_some hm
            have hfn : ((rise boxes).filter fun b => !decide (b ∈ m.members.map (·.1))).Nodup := (List.filter_sublist (l := rise boxes)).nodup (rise_nodup boxes)
            have hspent : ∀ i ∈ (rise boxes).filter (fun b => !decide (b ∈ m.members.map (·.1))), nextOf x.boxes i ≤ x.cfg.maxUid := by
              intro i hi
              have h1 : ¬ x.spent i = true := fun h2 => by
                have h3 := List.any_eq_true.2 ⟨i, hi, h2⟩
                rw [hend.2] at h3
                cases h3
              have h4 : ¬ x.cfg.maxUid < nextOf x.boxes i := by simpa [Acc.spent] using h1
              omega
            rw [numbers_eq _ x.boxes h.idsB hfn]
            have hs1 : BoxStep x.cfg x.boxes (bumpAll ((rise boxes).filter fun b => !decide (b ∈ m.members.map (·.1))) x.boxes) := boxStep_bump _ _ _ fun b hb hi => by
              have := hspent _ hi
              rwa [nextOf_mem h.idsB hb] at this
            generalize hrl : rise ((m.members.map (·.1)).filter (fun b => !decide (b ∈ rise boxes)) ++ (rise boxes).filter (fun b => !decide (b ∈ m.members.map (·.1)))) = turned
            have hs2 : BoxStep x.cfg (bumpAll ((rise boxes).filter fun b => !decide (b ∈ m.members.map (·.1))) x.boxes) (turnBoxes (x.clock + 1) turned (bumpAll ((rise boxes).filter fun b => !decide (b ∈ m.members.map (·.1))) x.boxes)) := boxStep_turn _ _ _ _ (by rw [ids_bumpAll]; exact h.idsB)
            have hs := hs1.trans hs2
            simp only []
            have hid : m.id = id := by
              have := List.find?_some (p := fun m : MailP => decide (m.id = id)) hm
              simpa using this
            have hmem := (sortM_ok (placed_nodup (bs := x.boxes) (boxes := boxes) (h.mail m hmm).mem)).2
            refine ⟨Int.le_refl _, fun i _ _ => hs.next i, fun i hi hn => absurd (by rw [← hs.ids]; exact hi) hn, id, fun m' hm' p hp => ?_⟩
            rcases mem_setMail hm' with hm' | ⟨b, hb, rfl⟩
            · exact .inl ⟨m', hm', rfl, hp⟩
            · have hbm : b = m := by
                rw [hm] at hb
                exact (Option.some.inj hb).symm
              subst hbm
              rcases List.mem_append.1 ((hmem p).1 hp) with h3 | h3
              · exact .inl ⟨b, hmm, rfl, (List.mem_filter.1 h3).1⟩
              · obtain ⟨i, hi, rfl⟩ := List.mem_map.1 h3
                exact .inr ⟨hid, hasBox_of_rise hhas' (List.mem_filter.1 hi).1, rfl⟩

/-- A number that was seen: mailbox, number, email. -/
structure UseP where
  box : Int
  uid : Int
  mail : Int
structure UsesOk (x : Acc) (ever : List UseP) : Prop where
  each : ∀ y ∈ ever, y.box ≤ x.lastBox ∧ (y.box ∈ ids x.boxes → y.uid < nextOf x.boxes y.box) ∧ ∀ m ∈ x.mails, (y.box, y.uid) ∈ m.members → m.id = y.mail
  uniq : ∀ m ∈ x.mails, ∀ m' ∈ x.mails, ∀ p ∈ m.members, p ∈ m'.members → m.id = m'.id
theorem usesOk_new (c : CfgP) : UsesOk (newP c) [] := ⟨fun y hy => (by cases hy), fun m hm => (by simp [newP] at hm)⟩
theorem UsesOk.step {x x' : Acc} {ever : List UseP} (h : UsesOk x ever) (hf : Fit x) (he : Evo x x') : UsesOk x' ever := by
  obtain ⟨one, hone⟩ := he.mem
  refine ⟨fun y hy => ?_, fun m hm m' hm' p hp hp' => ?_⟩
  · obtain ⟨h1, h2, h3⟩ := h.each y hy
    refine ⟨Int.le_trans h1 he.last, fun hi => ?_, fun m hm hmem => ?_⟩
    · by_cases hb : y.box ∈ ids x.boxes
      · exact Int.lt_of_lt_of_le (h2 hb) (he.next _ hi hb)
      · have := he.newb _ hi hb
        omega
    · rcases hone m hm _ hmem with ⟨a, ha, hid, hap⟩ | ⟨_, hb, hu⟩
      · rw [← hid]
        exact h3 a ha hap
      · have h4 := h2 hb
        simp only at hu
        omega
  · rcases hone m hm p hp with ⟨a, ha, hid, hap⟩ | ⟨hid, hb, hu⟩
    · rcases hone m' hm' p hp' with ⟨a', ha', hid', hap'⟩ | ⟨_, _, hu'⟩
      · rw [← hid, ← hid']
        exact h.uniq a ha a' ha' p hap hap'
      · have := ((hf.mail a ha).mem.each p hap).2.2
        omega
    · rcases hone m' hm' p hp' with ⟨a', ha', hid', hap'⟩ | ⟨hid', _, _⟩
      · have := ((hf.mail a' ha').mem.each p hap').2.2
        omega
      · rw [hid, hid']
/-- One that is seen now. -/
theorem UsesOk.seen {x : Acc} {ever : List UseP} (h : UsesOk x ever) (hf : Fit x) {m : MailP} (hm : m ∈ x.mails) {p : Int × Int} (hp : p ∈ m.members) : UsesOk x (ever ++ [⟨p.1, p.2, m.id⟩]) := by
  refine ⟨fun y hy => ?_, h.uniq⟩
  rcases List.mem_append.1 hy with hy | hy
  · exact h.each y hy
  · rw [List.mem_singleton] at hy
    subst hy
    obtain ⟨h1, h2, h3⟩ := (hf.mail m hm).mem.each p hp
    obtain ⟨b, hb, hbi⟩ := List.mem_map.1 h1
    refine ⟨?_, fun _ => h3, fun m' hm' hmem => h.uniq m' hm' m hm p hmem hp⟩
    have := (hf.box b hb).id.2
    show p.1 ≤ x.lastBox
    rw [← hbi]
    exact this
/-- .. is what it was. -/
theorem UsesOk.same {x : Acc} {ever : List UseP} (h : UsesOk x ever) {m : MailP} (hm : m ∈ x.mails) {p : Int × Int} (hp : p ∈ m.members) {y : UseP} (hy : y ∈ ever) (h1 : y.box = p.1) (h2 : y.uid = p.2) : y.mail = m.id := by
  have := (h.each y hy).2.2 m hm (by rw [h1, h2]; exact hp)
  exact this.symm

end Go.Proofs.YtmbibhphpjmboaaGreatDoor

namespace Go.Proofs.YtmbibhphpjmboaaGreatDoor

theorem addLoop_same (mod : Int) : ∀ (l es : List E4), (∀ y ∈ es, y.m ≤ mod) → (∀ e ∈ l, e.m = mod) → addLoop es l = es ++ l
  | [], es, _, _ => by simp [addLoop]
  | e :: r, es, h1, h2 => by
    have he := h2 e (by simp)
    have hno : ¬ ∃ y ∈ es.getLast?, e.m < y.m := by
      rintro ⟨y, hy, hlt⟩
      have := h1 y (List.mem_of_getLast? hy)
      omega
    rw [addLoop, if_neg hno, addLoop_same mod r (es ++ [e]) (fun y hy => ?_) (fun x hx => h2 x (by simp [hx]))]
    · simp
    · rcases List.mem_append.1 hy with hy | hy
      · exact h1 y hy
      · rw [List.mem_singleton] at hy
        rw [hy]
        omega
/-- A log that has forgotten nothing: what is added stands behind. -/
theorem add_whole {g : LogV} {mod : Int} {l : List E4} (h1 : ∀ y ∈ g.es, y.m ≤ mod) (h2 : ∀ e ∈ l, e.m = mod) (h3 : ((g.es ++ l).length : Int) ≤ g.most) : g.add l = ⟨g.most, g.es ++ l, g.floor⟩ := by
  have h := addLoop_same mod l g.es h1 h2
  unfold LogV.add
  rw [h, if_neg (by omega)]

/-- What holds of a wide account's log, and of its emails' clocks, behind n steps. -/
structure LogFit (x : Acc) (n : Nat) : Prop where
  floor : x.log.floor = 0
  most : x.log.most = 10000
  low : ∀ y ∈ x.log.es, y.m ≤ x.clock
  len : x.log.es.length ≤ n * 64
  clock : x.clock ≤ 1 + n
  mod : ∀ m ∈ x.mails, m.mod ≤ x.clock
  pos : 1 ≤ x.clock

/-- A step's new entries: those of the new clock, all; what a Since from the old one takes. -/
theorem takes_new {es l : List E4} {c : Int} (kind : Int) (h1 : ∀ y ∈ es, y.m ≤ c) (h2 : ∀ e ∈ l, e.m = c + 1) : (es ++ l).filter (takes kind c (c + 1)) = l.filter fun e => e.k == kind := by
  rw [List.filter_append]
  have e1 : es.filter (takes kind c (c + 1)) = [] := by
    rw [List.filter_eq_nil_iff]
    intro y hy
    have := h1 y hy
    simp only [takes, Bool.and_eq_true, decide_eq_true_eq, not_and]
    intro hh
    omega
  rw [e1, List.nil_append]
  refine List.filter_congr fun e he => ?_
  have := h2 e he
  simp only [takes]
  rw [show decide (c < e.m) = true from decide_eq_true (by omega), show decide (e.m ≤ c + 1) = true from decide_eq_true (by omega)]
  simp
theorem takes_none {es : List E4} {c : Int} (kind : Int) (h1 : ∀ y ∈ es, y.m ≤ c) : es.filter (takes kind c c) = [] := by
  rw [List.filter_eq_nil_iff]
  intro y hy
  have := h1 y hy
  simp only [takes, Bool.and_eq_true, decide_eq_true_eq, not_and]
  intro hh
  omega

/-- Mailboxes turned: a Since tells so, each once; nothing was made, nothing is gone. -/
theorem told_turned : ∀ (is : List Int) (mod : Int), (told (turnEnts mod is)).made = [] ∧ (told (turnEnts mod is)).gone = [] := by
  intro is mod
  have hadd : ∀ (s : Seen) (l : List E4), (∀ p ∈ s, p.2.1 = 2 ∧ p.2.2 = 2) → (∀ e ∈ l, e.h = 2) → ∀ p ∈ l.foldl addS s, p.2.1 = 2 ∧ p.2.2 = 2 := by
    intro s l
    induction l generalizing s with
    | nil => intro h _; exact h
    | cons e r ih =>
      intro h he
      refine ih (addS s e) ?_ (fun x hx => he x (by simp [hx]))
      have hh := he e (by simp)
      clear ih
      induction s with
      | nil =>
        intro p hp
        simp only [addS, List.mem_singleton] at hp
        subst hp
        exact ⟨hh, hh⟩
      | cons q s ih2 =>
        intro p hp
        unfold addS at hp
        split at hp
        · rcases List.mem_cons.1 hp with rfl | hp
          · exact ⟨(h q (by simp)).1, hh⟩
          · exact h p (by simp [hp])
        · rcases List.mem_cons.1 hp with rfl | hp
          · exact h _ (by simp)
          · exact ih2 (fun x hx => h x (by simp [hx])) p hp
  have hfold : ∀ (s : Seen) (t : Told), (∀ p ∈ s, p.2.1 = 2 ∧ p.2.2 = 2) → t.made = [] → t.gone = [] → (s.foldl toldOne t).made = [] ∧ (s.foldl toldOne t).gone = [] := by
    intro s
    induction s with
    | nil => intro t _ h1 h2; exact ⟨h1, h2⟩
    | cons p r ih =>
      intro t h h1 h2
      obtain ⟨a, b⟩ := h p (by simp)
      refine ih (toldOne t p) (fun x hx => h x (by simp [hx])) ?_ ?_
      · simp [toldOne, a, b, h1]
      · simp [toldOne, a, b, h2]
  exact hfold _ _ (hadd [] (turnEnts mod is) (by simp) (by simp [turnEnts])) rfl rfl

/-- The one number of two lists; 0: there is none. -/
def firstT (t : Told) : Int := match t.made with
  | i :: _ => i
  | [] => match t.turned with
    | i :: _ => i
    | [] => 0
/-- What the statement asks of a step. -/
structure LogLaw (x x' : Acc) (tm tb : Told) : Prop where
  mailsTold : told (x'.log.es.filter (takes 2 x.clock x'.clock)) = tm
  boxesTold : told (x'.log.es.filter (takes 1 x.clock x'.clock)) = tb
  one : tm.size ≤ 1
  mails : (x'.mails.length : Int) - x.mails.length = (tm.made.length : Int) - tm.gone.length
  boxes : (x'.boxes.length : Int) - x.boxes.length = (tb.made.length : Int) - tb.gone.length
  each : ∀ m ∈ x'.mails, (m.mod = x'.clock ∧ x.clock < x'.clock) ↔ firstT tm = m.id

theorem logLaw_same {x : Acc} {n : Nat} (h : LogFit x n) (hf : Fit x) : LogLaw x x ⟨[], [], []⟩ ⟨[], [], []⟩ := by
  refine ⟨by rw [takes_none 2 h.low]; rfl, by rw [takes_none 1 h.low]; rfl, by simp [Told.size], by simp, by simp, fun m hm => ?_⟩
  have := (hf.mail m hm).id.1
  constructor
  · rintro ⟨_, h1⟩
    omega
  · intro h1
    have h2 : (0 : Int) = m.id := h1
    omega
theorem logLaw_new {x x' : Acc} {n : Nat} (h : LogFit x n) {l : List E4} {tm tb : Told} (hes : x'.log.es = x.log.es ++ l) (hc : x'.clock = x.clock + 1) (hl : ∀ e ∈ l, e.m = x.clock + 1)
    (h2 : told (l.filter fun e => e.k == 2) = tm) (h1 : told (l.filter fun e => e.k == 1) = tb) (one : tm.size ≤ 1) (hm : (x'.mails.length : Int) - x.mails.length = (tm.made.length : Int) - tm.gone.length)
    (hb : (x'.boxes.length : Int) - x.boxes.length = (tb.made.length : Int) - tb.gone.length) (he : ∀ m ∈ x'.mails, m.mod = x.clock + 1 ↔ firstT tm = m.id) : LogLaw x x' tm tb := by
  refine ⟨by rw [hes, hc, takes_new 2 h.low hl, h2], by rw [hes, hc, takes_new 1 h.low hl, h1], one, hm, hb, fun m hmm => ?_⟩
  rw [← he m hmm, hc]
  constructor
  · exact fun h => h.1
  · exact fun h => ⟨h, by omega⟩

theorem filter_turn (mod : Int) (is : List Int) (l : List E4) : (turnEnts mod is ++ l).filter (fun e => e.k == 1) = turnEnts mod is ++ l.filter (fun e => e.k == 1) ∧ (turnEnts mod is ++ l).filter (fun e => e.k == 2) = l.filter (fun e => e.k == 2) := by
  constructor
  · rw [List.filter_append, List.filter_eq_self.2]
    intro e he
    obtain ⟨i, _, rfl⟩ := List.mem_map.1 he
    rfl
  · rw [List.filter_append, List.filter_eq_nil_iff.2, List.nil_append]
    intro e he
    obtain ⟨i, _, rfl⟩ := List.mem_map.1 he
    show ¬ ((1 : Int) == 2) = true
    decide
theorem turn_mod (mod : Int) (is : List Int) (l : List E4) (h : ∀ e ∈ l, e.m = mod) : ∀ e ∈ turnEnts mod is ++ l, e.m = mod := by
  intro e he
  rcases List.mem_append.1 he with he | he
  · obtain ⟨i, _, rfl⟩ := List.mem_map.1 he
    rfl
  · exact h e he
/-- A log that a step adds to. -/
theorem LogFit.add {x : Acc} {n : Nat} (h : LogFit x n) (hn : n < 100) {l : List E4} (hl : ∀ e ∈ l, e.m = x.clock + 1) (hlen : l.length ≤ 64) : x.log.add l = ⟨10000, x.log.es ++ l, 0⟩ := by
  rw [add_whole (mod := x.clock + 1) (fun y hy => by have := h.low y hy; omega) hl ?_, h.most, h.floor]
  rw [h.most, List.length_append]
  have := h.len
  omega
theorem LogFit.next {x x' : Acc} {n : Nat} (h : LogFit x n) (hn : n < 100) {l : List E4} (hl : ∀ e ∈ l, e.m = x.clock + 1) (hlen : l.length ≤ 64) (hlog : x'.log = x.log.add l) (hc : x'.clock = x.clock + 1) (hm : ∀ m ∈ x'.mails, m.mod ≤ x.clock + 1) : LogFit x' (n + 1) := by
  have he := h.add hn hl hlen
  rw [he] at hlog
  refine ⟨by rw [hlog], by rw [hlog], fun y hy => ?_, ?_, ?_, fun m hmm => ?_, ?_⟩
  · rw [hlog] at hy
    rcases List.mem_append.1 hy with hy | hy
    · have := h.low y hy
      omega
    · have := hl y hy
      omega
  · rw [hlog]
    have := h.len
    show (x.log.es ++ l).length ≤ (n + 1) * 64
    rw [List.length_append]
    omega
  · have := h.clock
    omega
  · have := hm m hmm
    omega
  · have := h.pos
    omega
theorem LogFit.later {x : Acc} {n : Nat} (h : LogFit x n) : LogFit x (n + 1) := ⟨h.floor, h.most, h.low, by have := h.len; omega, by have := h.clock; omega, h.mod, h.pos⟩

theorem told_one (mod id how : Int) (h : how = 1 ∨ how = 2 ∨ how = 3) : told [⟨mod, 2, id, how⟩] = if how = 1 then ⟨[id], [], []⟩ else if how = 2 then ⟨[], [id], []⟩ else ⟨[], [], [id]⟩ := by
  rcases h with rfl | rfl | rfl <;> rfl
theorem told_box (mod id how : Int) (h : how = 1 ∨ how = 3) : told [⟨mod, 1, id, how⟩] = if how = 1 then ⟨[id], [], []⟩ else ⟨[], [], [id]⟩ := by
  rcases h with rfl | rfl <;> rfl
theorem told_turn_len (mod : Int) (is : List Int) (b b' : Nat) (h : b' = b) : (b' : Int) - b = ((told (turnEnts mod is)).made.length : Int) - (told (turnEnts mod is)).gone.length := by
  obtain ⟨h1, h2⟩ := told_turned is mod
  rw [h1, h2, h]
  simp

end Go.Proofs.YtmbibhphpjmboaaGreatDoor

namespace Go.Proofs.YtmbibhphpjmboaaGreatDoor

theorem nodup_sub_length : ∀ (l m : List Int), l.Nodup → (∀ x ∈ l, x ∈ m) → l.length ≤ m.length
  | [], _, _, _ => Nat.zero_le _
  | x :: l, m, hn, hs => by
    obtain ⟨h1, h2⟩ := List.nodup_cons.1 hn
    have hx : x ∈ m := hs x (by simp)
    have ih := nodup_sub_length l (m.erase x) h2 (fun y hy => by
      have hy2 := hs y (by simp [hy])
      have hne : y ≠ x := fun e => h1 (e ▸ hy)
      exact (List.mem_erase_of_ne hne).2 hy2)
    have := List.length_erase_of_mem hx
    have hpos : 0 < m.length := List.length_pos_of_mem hx
    rw [List.length_cons]
    omega
theorem rise_short {x : Acc} {n : Nat} (h : LogFit x n) (hf : Fit x) (hn : n < 60) {is : List Int} (hs : ∀ i ∈ is, i ∈ ids x.boxes) : (rise is).length ≤ 60 := by
  have h1 := nodup_sub_length (rise is) (ids x.boxes) (rise_nodup is) (fun i hi => hs i ((mem_rise is i).1 hi))
  have h2 := hf.nb
  have h3 := h.clock
  have h4 : (ids x.boxes).length = x.boxes.length := by simp [ids]
  omega
/-- A step of the log. -/
def LogStep (x x' : Acc) (n : Nat) : Prop := (∃ tm tb, LogLaw x x' tm tb) ∧ LogFit x' (n + 1)
theorem logStep_same {x : Acc} {n : Nat} (h : LogFit x n) (hf : Fit x) : LogStep x x n := ⟨⟨_, _, logLaw_same h hf⟩, h.later⟩

/-- What a step that turns mailboxes, and has one entry of an email, does. -/
theorem logStep_mail {x x' : Acc} {n : Nat} (h : LogFit x n) (hn : n < 60) {is : List Int} (his : is.length ≤ 60) {id how : Int} (hhow : how = 1 ∨ how = 2 ∨ how = 3) {more : List E4} (hmore : ∀ e ∈ more, e.m = x.clock + 1 ∧ e.k = 3) (hml : more.length ≤ 1)
    (hlog : x'.log = x.log.add (turnEnts (x.clock + 1) is ++ (⟨x.clock + 1, 2, id, how⟩ :: more))) (hc : x'.clock = x.clock + 1) (hb : x'.boxes.length = x.boxes.length)
    (hm : (x'.mails.length : Int) - x.mails.length = (if how = 1 then 1 else 0) - (if how = 3 then 1 else 0)) (hmod : ∀ m ∈ x'.mails, m.mod ≤ x.clock + 1) (he : ∀ m ∈ x'.mails, m.mod = x.clock + 1 ↔ (how ≠ 3 ∧ id = m.id)) (hid : ∀ m ∈ x'.mails, 1 ≤ m.id) : LogStep x x' n := by
  have hl : ∀ e ∈ turnEnts (x.clock + 1) is ++ (⟨x.clock + 1, 2, id, how⟩ :: more), e.m = x.clock + 1 := turn_mod _ _ _ fun e he => by
    rcases List.mem_cons.1 he with rfl | he
    · rfl
    · exact (hmore e he).1
  have hlen : (turnEnts (x.clock + 1) is ++ (⟨x.clock + 1, 2, id, how⟩ :: more)).length ≤ 64 := by
    have : (turnEnts (x.clock + 1) is).length = is.length := by simp [turnEnts]
    rw [List.length_append, this, List.length_cons]
    omega
  have hadd := h.add (by omega) hl hlen
  have hes : x'.log.es = x.log.es ++ (turnEnts (x.clock + 1) is ++ (⟨x.clock + 1, 2, id, how⟩ :: more)) := by rw [hlog, hadd]
  have hk3 : ∀ k : Int, k = 1 ∨ k = 2 → more.filter (fun e => e.k == k) = [] := by
    intro k hk
    rw [List.filter_eq_nil_iff]
    intro e he
    rw [(hmore e he).2]
    rcases hk with rfl | rfl <;> decide
  obtain ⟨f1, f2⟩ := filter_turn (x.clock + 1) is (⟨x.clock + 1, 2, id, how⟩ :: more)
  have g1 : (⟨x.clock + 1, 2, id, how⟩ :: more : List E4).filter (fun e => e.k == 1) = [] := by
    rw [List.filter_cons_of_neg (by simp), hk3 1 (.inl rfl)]
  have g2 : (⟨x.clock + 1, 2, id, how⟩ :: more : List E4).filter (fun e => e.k == 2) = [⟨x.clock + 1, 2, id, how⟩] := by
    rw [List.filter_cons_of_pos (by simp), hk3 2 (.inr rfl)]
  rw [g1, List.append_nil] at f1
  rw [g2] at f2
  have ht := told_one (x.clock + 1) id how hhow
  refine ⟨⟨_, _, logLaw_new h hes hc hl (by rw [f2, ht]) (by rw [f1]) ?_ ?_ (told_turn_len _ _ _ _ hb) ?_⟩, h.next (by omega) hl hlen hlog hc hmod⟩
  · rcases hhow with rfl | rfl | rfl <;> exact Nat.le_refl 1
  · rw [hm]
    rcases hhow with rfl | rfl | rfl <;> rfl
  · intro m hmm
    rw [he m hmm]
    have := hid m hmm
    rcases hhow with rfl | rfl | rfl
    · simp [firstT]
    · simp [firstT]
    · simp [firstT]
      omega

/-- .. and one that has one entry of a mailbox. -/
theorem logStep_box {x x' : Acc} {n : Nat} (h : LogFit x n) (hf : Fit x) (hn : n < 60) {id how : Int} (hhow : how = 1 ∨ how = 2 ∨ how = 3) (hlog : x'.log = x.log.add [⟨x.clock + 1, 1, id, how⟩]) (hc : x'.clock = x.clock + 1) (hm : x'.mails = x.mails)
    (hb : (x'.boxes.length : Int) - x.boxes.length = (if how = 1 then 1 else 0) - (if how = 3 then 1 else 0)) : LogStep x x' n := by
  have hl : ∀ e ∈ ([⟨x.clock + 1, 1, id, how⟩] : List E4), e.m = x.clock + 1 := fun e he => by
    rw [List.mem_singleton] at he
    rw [he]
  have hadd := h.add (by omega) hl (by simp)
  have hes : x'.log.es = x.log.es ++ [⟨x.clock + 1, 1, id, how⟩] := by rw [hlog, hadd]
  have ht : told [⟨x.clock + 1, 1, id, how⟩] = if how = 1 then ⟨[id], [], []⟩ else if how = 2 then ⟨[], [id], []⟩ else ⟨[], [], [id]⟩ := by rcases hhow with rfl | rfl | rfl <;> rfl
  refine ⟨⟨⟨[], [], []⟩, _, logLaw_new h hes hc hl rfl (by rw [show ([⟨x.clock + 1, 1, id, how⟩] : List E4).filter (fun e => e.k == 1) = [⟨x.clock + 1, 1, id, how⟩] from rfl, ht]) (by simp [Told.size]) (by rw [hm]; simp) ?_ ?_⟩, h.next (by omega) hl (by simp) hlog hc ?_⟩
  · rw [hb]
    rcases hhow with rfl | rfl | rfl <;> rfl
  · intro m hmm
    rw [hm] at hmm
    have h1 := h.mod m hmm
    have h2 := (hf.mail m hmm).id.1
    constructor
    · intro h3
      omega
    · intro h3
      have h4 : (0 : Int) = m.id := h3
      omega
  · intro m hmm
    rw [hm] at hmm
    have := h.mod m hmm
    omega

theorem makeP_logs (right : Text → Bool) {x : Acc} {n : Nat} (h : LogFit x n) (hf : Fit x) (hn : n < 60) (name : Text) (parent : Int) : LogStep x (makeP right x name parent).1 n := by
  unfold makeP
  split
  · exact logStep_same h hf
  · split
    · exact logStep_same h hf
    · split
      · exact logStep_same h hf
      · refine logStep_box h hf hn (how := 1) (.inl rfl) rfl rfl rfl ?_
        show ((x.boxes ++ [_]).length : Int) - x.boxes.length = 1 - 0
        rw [List.length_append, List.length_singleton]
        omega
theorem renameP_logs (right : Text → Bool) {x : Acc} {n : Nat} (h : LogFit x n) (hf : Fit x) (hn : n < 60) (id : Int) (name : Text) (parent : Int) : LogStep x (renameP right x id name parent).1 n := by
  unfold renameP
  split
  · exact logStep_same h hf
  · split
    · exact logStep_same h hf
    · split
      · exact logStep_same h hf
      · split
        · exact logStep_same h hf
        · split
          · exact logStep_same h hf
          · split
            · exact logStep_same h hf
            · refine logStep_box h hf hn (id := id) (how := 2) (.inr (.inl rfl)) rfl rfl rfl ?_
              show ((turnBoxes (x.clock + 1) [id] (setBox id (fun b => { b with name := name, parent := parent }) x.boxes)).length : Int) - x.boxes.length = 0 - 0
              simp only [turnBoxes, List.foldl_cons, List.foldl_nil, setBox_length]
              omega
theorem dropP_logs {x : Acc} {n : Nat} (h : LogFit x n) (hf : Fit x) (hn : n < 60) (id : Int) : LogStep x (dropP x id).1 n := by
  unfold dropP
  split
  · exact logStep_same h hf
  · rename_i hhas
    split
    · exact logStep_same h hf
    · split
      · exact logStep_same h hf
      · split
        · exact logStep_same h hf
        · have hany : x.boxes.any (fun b => decide (b.id = id)) = true := by
            have : ¬ hasBox x.boxes id = false := hhas
            simpa [hasBox] using this
          have hp := place_pos _ _ hany
          have hlt := place_lt (fun b : BoxP => decide (b.id = id)) x.boxes
          refine logStep_box h hf hn (id := id) (how := 3) (.inr (.inr rfl)) rfl rfl rfl ?_
          show ((x.boxes.eraseIdx (place (fun b : BoxP => decide (b.id = id)) x.boxes).toNat).length : Int) - x.boxes.length = 0 - 1
          rw [List.length_eraseIdx_of_lt (by omega)]
          omega
theorem turnBoxes_length (mod : Int) : ∀ (is : List Int) (l : List BoxP), (turnBoxes mod is l).length = l.length
  | [], _ => rfl
  | i :: r, l => by
    have := turnBoxes_length mod r (setBox i (fun b => { b with mod := mod }) l)
    rw [setBox_length] at this
    exact this

theorem appendP_logs (head : Text → Text → Text) {x : Acc} {n : Nat} (h : LogFit x n) (hf : Fit x) (hn : n < 60) (boxes : List Int) (keys : List Text) (at_ : Int) (t : Text) : LogStep x (appendP head x boxes keys at_ t).1 n := by
  unfold appendP appendK
  split
  · exact logStep_same h hf
  · split
    · exact logStep_same h hf
    · split
      · exact logStep_same h hf
      · rename_i hhas
        split
        · exact logStep_same h hf
        · split
          · exact logStep_same h hf
          · have hhas' : (rise boxes).any (fun id => !hasBox x.boxes id) = false := by simpa using hhas
            have hrl : (rise boxes).length ≤ 60 := rise_short h hf hn (fun i hi => hasBox_of_rise hhas' ((mem_rise boxes i).2 hi))
            simp only [numbers_eq (rise boxes) x.boxes hf.idsB (rise_nodup boxes)]
            refine logStep_mail h hn hrl (id := x.lastId + 1) (how := 1) (.inl rfl) (more := [⟨x.clock + 1, 3, if threadP head x t = 0 then x.lastId + 1 else threadP head x t, if threadP head x t = 0 then 1 else 2⟩]) (fun e he => ?_) (by simp) rfl rfl ?_ ?_ ?_ ?_ ?_
            · rw [List.mem_singleton] at he
              rw [he]
              exact ⟨rfl, rfl⟩
            · show (turnBoxes (x.clock + 1) (rise boxes) (bumpAll (rise boxes) x.boxes)).length = x.boxes.length
              rw [turnBoxes_length]
              simp [bumpAll]
            · show ((x.mails ++ [_]).length : Int) - x.mails.length = 1 - 0
              rw [List.length_append, List.length_singleton]
              omega
            · intro m hm
              rcases List.mem_append.1 hm with hm | hm
              · have := h.mod m hm
                omega
              · rw [List.mem_singleton] at hm
                subst hm
                exact Int.le_refl _
            · intro m hm
              rcases List.mem_append.1 hm with hm | hm
              · have h1 := h.mod m hm
                have h2 := (hf.mail m hm).id.2
                constructor
                · intro h3
                  omega
                · rintro ⟨_, h3⟩
                  omega
              · rw [List.mem_singleton] at hm
                subst hm
                exact ⟨fun _ => ⟨by decide, rfl⟩, fun _ => rfl⟩
            · intro m hm
              rcases List.mem_append.1 hm with hm | hm
              · exact (hf.mail m hm).id.1
              · rw [List.mem_singleton] at hm
                subst hm
                have := hf.lastId.1
                show 1 ≤ x.lastId + 1
                omega

theorem setMail_map (id : Int) (f : MailP → MailP) : ∀ l, (idsMl l).Nodup → setMail id f l = l.map (fun m => if m.id = id then f m else m)
  | [], _ => rfl
  | b :: r, h => by
    have h' : b.id ∉ idsMl r ∧ (idsMl r).Nodup := by simpa [idsMl] using h
    by_cases he : b.id = id
    · have hr : ∀ c ∈ r, ¬ c.id = id := fun c hc e => h'.1 (by rw [he, ← e]; exact List.mem_map_of_mem hc)
      rw [setMail, if_pos he, List.map_cons, if_pos he]
      congr 1
      conv => lhs; rw [← List.map_id r]
      exact List.map_congr_left fun c hc => by simp [hr c hc]
    · rw [setMail, if_neg he, List.map_cons, if_neg he, setMail_map id f r h'.2]
/-- An email turned: what the statement asks of the emails. -/
theorem setMail_logs {x : Acc} {n : Nat} (h : LogFit x n) (hf : Fit x) {id : Int} {f : MailP → MailP} (h1 : ∀ m, (f m).id = m.id) (h2 : ∀ m, (f m).mod = x.clock + 1) :
    (∀ m ∈ setMail id f x.mails, m.mod ≤ x.clock + 1) ∧ (∀ m ∈ setMail id f x.mails, m.mod = x.clock + 1 ↔ id = m.id) ∧ ∀ m ∈ setMail id f x.mails, 1 ≤ m.id := by
  rw [setMail_map id f x.mails hf.idsM]
  refine ⟨fun m hm => ?_, fun m hm => ?_, fun m hm => ?_⟩ <;> obtain ⟨a, ha, rfl⟩ := List.mem_map.1 hm
  · split
    · rw [h2]
      exact Int.le_refl _
    · have := h.mod a ha
      omega
  · split
    · rename_i he
      rw [h1, h2]
      exact ⟨fun _ => he.symm, fun _ => rfl⟩
    · rename_i he
      have := h.mod a ha
      exact ⟨fun h3 => by omega, fun h3 => absurd h3.symm he⟩
  · split
    · rw [h1]
      exact (hf.mail a ha).id.1
    · exact (hf.mail a ha).id.1

theorem members_in {x : Acc} (hf : Fit x) {m : MailP} (hm : m ∈ x.mails) : ∀ i ∈ m.members.map (·.1), i ∈ ids x.boxes := by
  intro i hi
  obtain ⟨p, hp, rfl⟩ := List.mem_map.1 hi
  exact ((hf.mail m hm).mem.each p hp).1
theorem keysP_logs {x : Acc} {n : Nat} (h : LogFit x n) (hf : Fit x) (hn : n < 60) (id : Int) (keys : List Text) : LogStep x (keysP x id keys).1 n := by
  unfold keysP keysK
  split
  · exact logStep_same h hf
  · rename_i m hm
    split
    · exact logStep_same h hf
    · split
      · exact logStep_same h hf
      · split
        · exact logStep_same h hf
        · simp only []
          have hmm := List.mem_of_find?_eq_some hm
          generalize hids : (if (decide (seenT ∈ (keysF keys).fst) ≠ decide (seenT ∈ m.keys)) then rise (m.members.map (·.1)) else ([] : List Int)) = is
          have his : is.length ≤ 60 := by
            rw [← hids]
            split
            · exact rise_short h hf hn (members_in hf hmm)
            · simp
          obtain ⟨a1, a2, a3⟩ := setMail_logs h hf (id := id) (f := fun m => { m with keys := (keysF keys).1, mod := x.clock + 1 }) (fun _ => rfl) (fun _ => rfl)
          refine logStep_mail h hn his (id := id) (how := 2) (.inr (.inl rfl)) (more := []) (by simp) (by simp) rfl rfl ?_ ?_ a1 (fun m hm => ?_) a3
          · show (turnBoxes (x.clock + 1) is x.boxes).length = x.boxes.length
            exact turnBoxes_length _ _ _
          · show ((setMail id _ x.mails).length : Int) - x.mails.length = 0 - 0
            rw [setMail_length]
            omega
          · rw [a2 m hm]
            exact ⟨fun h => ⟨by decide, h⟩, fun h => h.2⟩
theorem placeP_logs {x : Acc} {n : Nat} (h : LogFit x n) (hf : Fit x) (hn : n < 60) (id : Int) (boxes : List Int) : LogStep x (placeP x id boxes).1 n := by
  unfold placeP
  split
  · exact logStep_same h hf
  · rename_i m hm
    split
    · exact logStep_same h hf
    · split
      · exact logStep_same h hf
      · rename_i hhas
        simp only []
        split
        · exact logStep_same h hf
        · split
          · exact logStep_same h hf
          · have hhas' : (rise boxes).any (fun id => !hasBox x.boxes id) = false := by simpa using hhas
            have hmm := List.mem_of_find?_eq_some hm
            have hfn : ((rise boxes).filter fun b => !decide (b ∈ m.members.map (·.1))).Nodup := (List.filter_sublist (l := rise boxes)).nodup (rise_nodup boxes)
            have his := rise_short h hf hn (is := (m.members.map (·.1)).filter (fun b => !decide (b ∈ rise boxes)) ++ (rise boxes).filter (fun b => !decide (b ∈ m.members.map (·.1)))) (fun i hi => by
              rcases List.mem_append.1 hi with hi | hi
              · exact members_in hf hmm i (List.mem_filter.1 hi).1
              · exact hasBox_of_rise hhas' (List.mem_filter.1 hi).1)
            rw [numbers_eq _ x.boxes hf.idsB hfn]
            generalize hrl : rise ((m.members.map (·.1)).filter (fun b => !decide (b ∈ rise boxes)) ++ (rise boxes).filter (fun b => !decide (b ∈ m.members.map (·.1)))) = turned at his
            simp only []
            refine logStep_mail h hn his (id := id) (how := 2) (.inr (.inl rfl)) (more := []) (by simp) (by simp) rfl rfl ?_ ?_ ?_ (fun m hm => ?_) ?_
            · show (turnBoxes (x.clock + 1) turned (bumpAll _ x.boxes)).length = x.boxes.length
              rw [turnBoxes_length]
              simp [bumpAll]
            · show ((setMail id _ x.mails).length : Int) - x.mails.length = 0 - 0
              rw [setMail_length]
              omega
            · refine (setMail_logs h hf (id := id) ?_ ?_).1
              · exact fun _ => rfl
              · exact fun _ => rfl
            · have h9 : m.mod = x.clock + 1 ↔ id = m.id := by
                refine (setMail_logs h hf (id := id) ?_ ?_).2.1 m hm
                · exact fun _ => rfl
                · exact fun _ => rfl
              rw [h9]
              exact ⟨fun h => ⟨by decide, h⟩, fun h => h.2⟩
            · refine (setMail_logs h hf (id := id) ?_ ?_).2.2
              · exact fun _ => rfl
              · exact fun _ => rfl
theorem destroyP_logs {x : Acc} {n : Nat} (h : LogFit x n) (hf : Fit x) (hn : n < 60) (id : Int) : LogStep x (destroyP x id).1 n := by
  unfold destroyP
  split
  · exact logStep_same h hf
  · rename_i m hm
    split
    · exact logStep_same h hf
    · have hmm := List.mem_of_find?_eq_some hm
      have hany : x.mails.any (fun m => decide (m.id = id)) = true := List.any_eq_true.2 ⟨m, hmm, List.find?_some (p := fun m : MailP => decide (m.id = id)) hm⟩
      have hp := place_pos _ _ hany
      have hlt := place_lt (fun m : MailP => decide (m.id = id)) x.mails
      have hsub := List.eraseIdx_sublist x.mails (mailOf id x.mails).toNat
      simp only []
      refine logStep_mail h hn (rise_short h hf hn (members_in hf hmm)) (id := id) (how := 3) (.inr (.inr rfl)) (more := [⟨x.clock + 1, 3, m.thread, if (x.mails.eraseIdx (mailOf id x.mails).toNat).any (fun y => decide (y.thread = m.thread)) = true then 2 else 3⟩]) (fun e he => ?_) (by simp) rfl rfl ?_ ?_ ?_ ?_ ?_
      · rw [List.mem_singleton] at he
        rw [he]
        exact ⟨rfl, rfl⟩
      · show (turnBoxes (x.clock + 1) _ x.boxes).length = x.boxes.length
        exact turnBoxes_length _ _ _
      · show ((x.mails.eraseIdx (place (fun m : MailP => decide (m.id = id)) x.mails).toNat).length : Int) - x.mails.length = 0 - 1
        rw [List.length_eraseIdx_of_lt (by omega)]
        omega
      · intro a ha
        have := h.mod a (hsub.subset ha)
        omega
      · intro a ha
        have := h.mod a (hsub.subset ha)
        exact ⟨fun h3 => by omega, fun h3 => absurd rfl h3.1⟩
      · intro a ha
        exact (hf.mail a (hsub.subset ha)).id.1
theorem logFit_new : LogFit (newP wideP) 0 := ⟨rfl, rfl, fun y hy => (by simp [newP] at hy), by simp [newP], by decide, fun m hm => (by simp [newP] at hm), by decide⟩

end Go.Proofs.YtmbibhphpjmboaaGreatDoor
