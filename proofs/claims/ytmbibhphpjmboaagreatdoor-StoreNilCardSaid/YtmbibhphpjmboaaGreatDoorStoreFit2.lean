/-
  What holds of every account that the steps make: kept by each of them.
-/
import Derived.Test.YtmbibhphpjmboaaGreatDoorStoreFit
namespace Go.Proofs.YtmbibhphpjmboaaGreatDoor

structure CfgOk (c : CfgP) : Prop where
  mails : 1 ≤ c.maxMails ∧ c.maxMails ≤ 2147483647
  boxes : 1 ≤ c.maxBoxes ∧ c.maxBoxes ≤ 2147483647
  size : 1 ≤ c.maxSize ∧ c.maxSize ≤ 2147483647
  uid : 1 ≤ c.maxUid ∧ c.maxUid ≤ 2147483647
  mod : 1 ≤ c.maxMod ∧ c.maxMod ≤ 2147483647
  log : 1 ≤ c.maxLog ∧ c.maxLog ≤ 2147483647
  get : 1 ≤ c.maxGet ∧ c.maxGet ≤ 2147483647

/-- A mailbox of an account whose last one is 'last'. -/
structure BoxOk (c : CfgP) (last : Int) (b : BoxP) : Prop where
  id : 1 ≤ b.id ∧ b.id ≤ last
  next : 1 ≤ b.next ∧ b.next ≤ c.maxUid + 1
  name : b.name.length ≤ 64
/-- An email's members: some, rising, each of a mailbox that there is, each number below the mailbox's next. -/
structure MemOk (bs : List BoxP) (l : List (Int × Int)) : Prop where
  some_ : l ≠ []
  rising : (l.map (·.1)).Pairwise (· < ·)
  each : ∀ p ∈ l, p.1 ∈ ids bs ∧ 1 ≤ p.2 ∧ p.2 < nextOf bs p.1
structure MailOk (bs : List BoxP) (last : Int) (m : MailP) : Prop where
  id : 1 ≤ m.id ∧ m.id ≤ last
  keys : m.keys.length ≤ 16
  mem : MemOk bs m.members

def sizeM (l : List MailP) : Int := ((l.map fun m => m.text.length).sum : Nat)
theorem sizeM_append (a b : List MailP) : sizeM (a ++ b) = sizeM a + sizeM b := by simp [sizeM]
theorem sizeM_one (m : MailP) : sizeM [m] = m.text.length := by simp [sizeM]
theorem sizeM_nonneg (l : List MailP) : 0 ≤ sizeM l := Int.natCast_nonneg _
theorem sizeM_mem {l : List MailP} {m : MailP} (h : m ∈ l) : (m.text.length : Int) ≤ sizeM l := by
  obtain ⟨a, b, rfl⟩ := List.append_of_mem h
  rw [sizeM_append, show m :: b = [m] ++ b from rfl, sizeM_append, sizeM_one]
  have := sizeM_nonneg a
  have := sizeM_nonneg b
  omega

structure Fit (x : Acc) : Prop where
  cfg : CfgOk x.cfg
  clock : 1 ≤ x.clock ∧ x.clock ≤ x.cfg.maxMod
  lastBox : 1 ≤ x.lastBox ∧ x.lastBox ≤ x.clock
  lastId : 0 ≤ x.lastId ∧ x.lastId ≤ x.clock
  nb : (x.boxes.length : Int) ≤ x.clock
  nm : (x.mails.length : Int) ≤ x.clock
  idsB : (ids x.boxes).Nodup
  box : ∀ b ∈ x.boxes, BoxOk x.cfg x.lastBox b
  idsM : (x.mails.map (·.id)).Nodup
  mail : ∀ m ∈ x.mails, MailOk x.boxes x.lastId m
  octets : x.octets = sizeM x.mails ∧ x.octets ≤ x.cfg.maxSize
  log : x.log.most = x.cfg.maxLog ∧ (x.log.es.length : Int) ≤ x.cfg.maxLog

/-- Mailboxes that are the same but for numbers that went on and clocks. -/
structure BoxStep (c : CfgP) (l l' : List BoxP) : Prop where
  ids : ids l' = ids l
  ok : ∀ last, (∀ b ∈ l, BoxOk c last b) → ∀ b ∈ l', BoxOk c last b
  next : ∀ i, nextOf l i ≤ nextOf l' i

theorem BoxStep.refl (c : CfgP) (l : List BoxP) : BoxStep c l l := ⟨rfl, fun _ h => h, fun _ => Int.le_refl _⟩
theorem BoxStep.length {c : CfgP} {l l' : List BoxP} (h : BoxStep c l l') : l'.length = l.length := by
  have := congrArg List.length h.ids
  simpa [Proofs.YtmbibhphpjmboaaGreatDoor.ids] using this
theorem BoxStep.trans {c : CfgP} {l l' l'' : List BoxP} (h : BoxStep c l l') (k : BoxStep c l' l'') : BoxStep c l l'' :=
  ⟨k.ids.trans h.ids, fun last hl => k.ok last (h.ok last hl), fun i => Int.le_trans (h.next i) (k.next i)⟩
theorem nextOf_map (l : List BoxP) (f : BoxP → BoxP) (hf : ∀ b, (f b).id = b.id) (hn : ∀ b ∈ l, b.next ≤ (f b).next) : ∀ i, nextOf l i ≤ nextOf (l.map f) i := by
  intro i
  induction l with
  | nil => exact Int.le_refl _
  | cons b r ih =>
    unfold nextOf
    by_cases hb : b.id = i
    · have h1 : (f b).id = i := (hf b).trans hb
      rw [List.map_cons, List.find?_cons_of_pos (by simpa using hb), List.find?_cons_of_pos (by simpa using h1)]
      exact hn b (by simp)
    · have h1 : ¬ (f b).id = i := fun e => hb ((hf b).symm.trans e)
      rw [List.map_cons, List.find?_cons_of_neg (by simpa using hb), List.find?_cons_of_neg (by simpa using h1)]
      exact ih fun b hb => hn b (by simp [hb])
theorem boxStep_map (c : CfgP) (l : List BoxP) (f : BoxP → BoxP) (hf : ∀ b, (f b).id = b.id) (hn : ∀ b ∈ l, b.next ≤ (f b).next) (hm : ∀ b ∈ l, (f b).next ≤ c.maxUid + 1 ∨ (f b).next = b.next) (hs : ∀ b ∈ l, (f b).name = b.name) : BoxStep c l (l.map f) := by
  refine ⟨ids_map l f hf, fun last h b hb => ?_, nextOf_map l f hf hn⟩
  obtain ⟨a, ha, rfl⟩ := List.mem_map.1 hb
  have h1 := h a ha
  have h2 := hn a ha
  refine ⟨by rw [hf]; exact h1.id, ⟨by have := h1.next.1; omega, ?_⟩, by rw [hs a ha]; exact h1.name⟩
  rcases hm a ha with h3 | h3
  · exact h3
  · rw [h3]
    exact h1.next.2
theorem boxStep_turn (c : CfgP) (mod : Int) (is : List Int) (l : List BoxP) (hn : (ids l).Nodup) : BoxStep c l (turnBoxes mod is l) := by
  rw [turnBoxes_map mod is l hn]
  refine boxStep_map c l _ (fun b => by split <;> rfl) (fun b _ => ?_) (fun b _ => .inr ?_) (fun b _ => ?_) <;> split <;> first | rfl | exact Int.le_refl _
theorem boxStep_bump (c : CfgP) (is : List Int) (l : List BoxP) (hs : ∀ b ∈ l, b.id ∈ is → b.next ≤ c.maxUid) : BoxStep c l (bumpAll is l) := by
  refine boxStep_map c l _ (fun b => by split <;> rfl) (fun b _ => ?_) (fun b hb => ?_) (fun b _ => by split <;> rfl)
  · split
    · show b.next ≤ b.next + 1
      omega
    · exact Int.le_refl _
  · split
    · rename_i h
      have := hs b hb h
      left
      show b.next + 1 ≤ c.maxUid + 1
      omega
    · exact .inr rfl
theorem MemOk.step {c : CfgP} {l l' : List BoxP} (h : BoxStep c l l') {m : List (Int × Int)} (hm : MemOk l m) : MemOk l' m :=
  ⟨hm.some_, hm.rising, fun p hp => by
    obtain ⟨h1, h2, h3⟩ := hm.each p hp
    exact ⟨by rw [h.ids]; exact h1, h2, Int.lt_of_lt_of_le h3 (h.next _)⟩⟩
theorem MailOk.step {c : CfgP} {l l' : List BoxP} {last : Int} (h : BoxStep c l l') {m : MailP} (hm : MailOk l last m) : MailOk l' last m := ⟨hm.id, hm.keys, hm.mem.step h⟩
theorem MailOk.later {l : List BoxP} {last last' : Int} (h : last ≤ last') {m : MailP} (hm : MailOk l last m) : MailOk l last' m := ⟨⟨hm.id.1, Int.le_trans hm.id.2 h⟩, hm.keys, hm.mem⟩
theorem log_add_ok {c : CfgP} {g : LogV} (hc : CfgOk c) (h : g.most = c.maxLog ∧ (g.es.length : Int) ≤ c.maxLog) (e : List E4) : (g.add e).most = c.maxLog ∧ ((g.add e).es.length : Int) ≤ c.maxLog := by
  have h1 := g.add_length e (by rw [h.1]; exact hc.log.1)
  exact ⟨h1.2.trans h.1, by rw [← h.1]; exact h1.1⟩

theorem newP_fit {c : CfgP} (hc : CfgOk c) : Fit (newP c) := by
  refine ⟨hc, ⟨Int.le_refl _, hc.mod.1⟩, ⟨Int.le_refl _, Int.le_refl _⟩, ⟨Int.le_refl _, by show (0:Int) ≤ 1; decide⟩, by simp [newP], by simp [newP], by simp [newP, ids], fun b hb => ?_, by simp [newP], fun m hm => by simp [newP] at hm, ⟨rfl, ?_⟩, rfl, ?_⟩
  · obtain rfl : b = ⟨1, inboxT, 0, 1, 1, 1⟩ := by simpa [newP] using hb
    exact ⟨⟨by decide, by show (1:Int) ≤ 1; omega⟩, ⟨by decide, by show (1:Int) ≤ c.maxUid + 1; have := hc.uid.1; omega⟩, by decide⟩
  · show (0:Int) ≤ c.maxSize
    have := hc.size.1
    omega
  · show (([] : List E4).length : Int) ≤ c.maxLog
    have := hc.log.1
    simp
    omega

theorem nextOf_bumpAll {l : List BoxP} {is : List Int} (h : (ids l).Nodup) {i : Int} (hi : i ∈ is) (hl : i ∈ ids l) : nextOf (bumpAll is l) i = nextOf l i + 1 := by
  obtain ⟨b, hb, rfl⟩ := List.mem_map.1 hl
  have h1 : ({ b with next := b.next + 1 } : BoxP) ∈ bumpAll is l := List.mem_map.2 ⟨b, hb, by rw [if_pos hi]⟩
  have h2 := nextOf_mem (l := bumpAll is l) (by rw [ids_bumpAll]; exact h) h1
  rw [nextOf_mem h hb]
  exact h2
theorem hasBox_of_rise {l : List BoxP} {is : List Int} (h : (rise is).any (fun id => !hasBox l id) = false) {i : Int} (hi : i ∈ rise is) : i ∈ ids l := by
  have h1 : ¬ (!hasBox l i) = true := fun h2 => by
    have h3 : (rise is).any (fun id => !hasBox l id) = true := List.any_eq_true.2 ⟨i, hi, h2⟩
    rw [h] at h3
    cases h3
  exact (hasBox_iff l i).1 (by simpa using h1)

theorem Fit.nextOf_pos {x : Acc} (h : Fit x) {i : Int} (hi : i ∈ ids x.boxes) : 1 ≤ nextOf x.boxes i := by
  obtain ⟨b, hb, rfl⟩ := List.mem_map.1 hi
  rw [nextOf_mem h.idsB hb]
  exact (h.box b hb).next.1

/-- A step of the clock that leaves the emails' ids alone: what an account wants of its new mailboxes, emails, log. -/
theorem appendP_fit (head : Text → Text → Text) {x : Acc} (h : Fit x) (boxes : List Int) (keys : List Text) (at_ : Int) (t : Text) (hk : (keysF keys).1.length ≤ 16) : Fit (appendP head x boxes keys at_ t).1 := by
  unfold appendP appendK
  split
  · exact h
  · rename_i hb
    split
    · exact h
    · split
      · exact h
      · rename_i hhas
        split
        · exact h
        · rename_i hfull
          split
          · exact h
          · rename_i hend
            simp only [Bool.or_eq_true, not_or, Bool.not_eq_true] at hend
            obtain ⟨hend1, hend2⟩ := hend
            have hclock : x.clock + 1 ≤ x.cfg.maxMod := by
              have : ¬ x.cfg.maxMod ≤ x.clock := by simpa [Acc.ends] using hend1
              omega
            have hhas' : (rise boxes).any (fun id => !hasBox x.boxes id) = false := by simpa using hhas
            have hspent : ∀ i ∈ rise boxes, nextOf x.boxes i ≤ x.cfg.maxUid := by
              intro i hi
              have h1 : ¬ x.spent i = true := fun h2 => by
                have h3 : (rise boxes).any x.spent = true := List.any_eq_true.2 ⟨i, hi, h2⟩
                rw [hend2] at h3
                cases h3
              have h4 : ¬ x.cfg.maxUid < nextOf x.boxes i := by simpa [Acc.spent] using h1
              omega
            have hnum := numbers_eq (rise boxes) x.boxes h.idsB (rise_nodup boxes)
            have hs1 : BoxStep x.cfg x.boxes (bumpAll (rise boxes) x.boxes) := boxStep_bump _ _ _ fun b hb hi => by
              have := hspent _ hi
              rwa [nextOf_mem h.idsB hb] at this
            have hs2 : BoxStep x.cfg (bumpAll (rise boxes) x.boxes) (turnBoxes (x.clock + 1) (rise boxes) (bumpAll (rise boxes) x.boxes)) := boxStep_turn _ _ _ _ (by rw [ids_bumpAll]; exact h.idsB)
            have hs := hs1.trans hs2
            have hne : boxes ≠ [] := fun e => hb (.inl e)
            simp only [hnum]
            refine ⟨h.cfg, ⟨by have := h.clock.1; show 1 ≤ x.clock + 1; omega, hclock⟩, ⟨h.lastBox.1, by have := h.lastBox.2; show x.lastBox ≤ x.clock + 1; omega⟩, ⟨by have := h.lastId.1; show 0 ≤ x.lastId + 1; omega, by have := h.lastId.2; show x.lastId + 1 ≤ x.clock + 1; omega⟩, ?_, ?_, ?_, ?_, ?_, ?_, ?_, log_add_ok h.cfg h.log _⟩
            · have := h.nb
              show ((turnBoxes (x.clock + 1) (rise boxes) (bumpAll (rise boxes) x.boxes)).length : Int) ≤ x.clock + 1
              rw [hs.length]
              omega
            · have := h.nm
              show ((x.mails ++ [_]).length : Int) ≤ x.clock + 1
              rw [List.length_append, List.length_singleton]
              omega
            · show (ids (turnBoxes (x.clock + 1) (rise boxes) (bumpAll (rise boxes) x.boxes))).Nodup
              rw [hs.ids]
              exact h.idsB
            · exact hs.ok _ h.box
            · show ((x.mails ++ [_]).map MailP.id).Nodup
              rw [List.map_append, List.nodup_append]
              refine ⟨h.idsM, by simp, fun a ha b hb => ?_⟩
              obtain ⟨m, hm, rfl⟩ := List.mem_map.1 ha
              have h1 := (h.mail m hm).id.2
              have h2 : b = x.lastId + 1 := by simpa using hb
              rw [h2]
              omega
            · intro m hm
              rcases List.mem_append.1 hm with hm | hm
              · exact ((h.mail m hm).step hs).later (by show x.lastId ≤ x.lastId + 1; omega)
              · rw [List.mem_singleton] at hm
                subst hm
                refine ⟨⟨by have := h.lastId.1; show 1 ≤ x.lastId + 1; omega, Int.le_refl _⟩, hk, ?_⟩
                refine ⟨?_, ?_, fun p hp => ?_⟩
                · intro e
                  obtain ⟨i, r, hr⟩ : ∃ i r, boxes = i :: r := by
                    cases boxes with
                    | nil => exact absurd rfl hne
                    | cons i r => exact ⟨i, r, rfl⟩
                  have h1 : i ∈ rise boxes := (mem_rise boxes i).2 (by rw [hr]; simp)
                  have h2 : rise boxes = [] := by simpa using e
                  rw [h2] at h1
                  cases h1
                · show (((rise boxes).map fun id => (id, nextOf x.boxes id)).map (·.1)).Pairwise (· < ·)
                  rw [List.map_map]
                  have : (rise boxes).map ((fun p : Int × Int => p.1) ∘ fun id => (id, nextOf x.boxes id)) = rise boxes := by
                    conv => rhs; rw [← List.map_id (rise boxes)]
                    exact List.map_congr_left fun _ _ => rfl
                  rw [this]
                  exact rise_sorted boxes
                · obtain ⟨i, hi, rfl⟩ := List.mem_map.1 hp
                  have hin := hasBox_of_rise hhas' hi
                  refine ⟨by show i ∈ ids (turnBoxes (x.clock + 1) (rise boxes) (bumpAll (rise boxes) x.boxes)); rw [hs.ids]; exact hin, h.nextOf_pos hin, ?_⟩
                  have h1 := nextOf_bumpAll h.idsB hi hin
                  have h2 := hs2.next i
                  show nextOf x.boxes i < nextOf (turnBoxes (x.clock + 1) (rise boxes) (bumpAll (rise boxes) x.boxes)) i
                  omega
            · have h1 := h.octets
              have h2 : ¬ x.cfg.maxSize - x.octets < (t.length : Int) := fun e => hfull (.inr e)
              refine ⟨?_, ?_⟩
              · show x.octets + t.length = sizeM (x.mails ++ [_])
                rw [sizeM_append, sizeM_one, h1.1]
              · show x.octets + t.length ≤ x.cfg.maxSize
                omega

end Go.Proofs.YtmbibhphpjmboaaGreatDoor
