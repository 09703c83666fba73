/-
  What holds of every account, kept by the other steps: Keys, Make, Rename, Drop, Destroy, Place.
-/
import Derived.Test.YtmbibhphpjmboaaGreatDoorStoreFit2
namespace Go.Proofs.YtmbibhphpjmboaaGreatDoor

def idsMl (l : List MailP) : List Int := l.map MailP.id
theorem setMail_ids (id : Int) (f : MailP → MailP) (hf : ∀ m, (f m).id = m.id) : ∀ l, idsMl (setMail id f l) = idsMl l
  | [] => rfl
  | m :: r => by
    unfold setMail
    split
    · simp [idsMl, hf]
    · simp only [idsMl, List.map_cons] at *
      rw [show (setMail id f r).map MailP.id = r.map MailP.id from setMail_ids id f hf r]
theorem setMail_length (id : Int) (f : MailP → MailP) : ∀ l, (setMail id f l).length = l.length
  | [] => rfl
  | m :: r => by
    unfold setMail
    split
    · rfl
    · rw [List.length_cons, List.length_cons, setMail_length id f r]
/-- What lies in the list behind: what lay there, or the first of the Id, turned. -/
theorem mem_setMail {id : Int} {f : MailP → MailP} : ∀ {l : List MailP} {m : MailP}, m ∈ setMail id f l → m ∈ l ∨ ∃ a, l.find? (fun m => decide (m.id = id)) = some a ∧ m = f a
  | [], m, h => by simp [setMail] at h
  | a :: r, m, h => by
    unfold setMail at h
    split at h
    · rename_i he
      rcases List.mem_cons.1 h with rfl | h
      · exact .inr ⟨a, by simp [he], rfl⟩
      · exact .inl (by simp [h])
    · rename_i he
      rcases List.mem_cons.1 h with rfl | h
      · exact .inl (by simp)
      · rcases mem_setMail h with h | ⟨b, hb, rfl⟩
        · exact .inl (by simp [h])
        · exact .inr ⟨b, by rw [List.find?_cons_of_neg (by simpa using he)]; exact hb, rfl⟩
theorem sizeM_setMail (id : Int) (f : MailP → MailP) (hf : ∀ m, (f m).text = m.text) : ∀ l, sizeM (setMail id f l) = sizeM l
  | [] => rfl
  | m :: r => by
    have h1 : ∀ (a : MailP) (l : List MailP), sizeM (a :: l) = a.text.length + sizeM l := fun a l => by simp [sizeM]
    unfold setMail
    split
    · rw [h1, h1, hf]
    · rw [h1, h1, sizeM_setMail id f hf r]

theorem keysP_fit {x : Acc} (h : Fit x) (id : Int) (keys : List Text) (hk : (keysF keys).1.length ≤ 16) : Fit (keysP x id keys).1 := by
  unfold keysP keysK
  split
  · exact h
  · rename_i m hm
    split
    · exact h
    · split
      · exact h
      · split
        · exact h
        · rename_i hend
          have hclock : x.clock + 1 ≤ x.cfg.maxMod := by
            have : ¬ x.cfg.maxMod ≤ x.clock := by simpa [Acc.ends] using hend
            omega
          simp only []
          generalize hids : (if (decide (seenT ∈ (keysF keys).fst) ≠ decide (seenT ∈ m.keys)) then rise (m.members.map (·.1)) else ([] : List Int)) = is
          have hs : BoxStep x.cfg x.boxes (turnBoxes (x.clock + 1) is x.boxes) := boxStep_turn _ _ _ _ h.idsB
          refine ⟨h.cfg, ⟨by have := h.clock.1; show 1 ≤ x.clock + 1; omega, hclock⟩, ⟨h.lastBox.1, by have := h.lastBox.2; show x.lastBox ≤ x.clock + 1; omega⟩, ⟨h.lastId.1, by have := h.lastId.2; show x.lastId ≤ x.clock + 1; omega⟩, ?_, ?_, ?_, hs.ok _ h.box, ?_, ?_, ?_, log_add_ok h.cfg h.log _⟩
          · have := h.nb
            show ((turnBoxes (x.clock + 1) is x.boxes).length : Int) ≤ x.clock + 1
            rw [hs.length]
            omega
          · have := h.nm
            show ((setMail id _ x.mails).length : Int) ≤ x.clock + 1
            rw [setMail_length]
            omega
          · show (ids (turnBoxes (x.clock + 1) is x.boxes)).Nodup
            rw [hs.ids]
            exact h.idsB
          · show (idsMl (setMail id _ x.mails)).Nodup
            rw [setMail_ids]
            · exact h.idsM
            · exact fun _ => rfl
          · intro a ha
            rcases mem_setMail ha with ha | ⟨b, hb, rfl⟩
            · exact (h.mail a ha).step hs
            · have h1 := (h.mail b (List.mem_of_find?_eq_some hb)).step hs
              exact ⟨h1.id, hk, h1.mem⟩
          · have h1 := h.octets
            refine ⟨?_, h1.2⟩
            show x.octets = sizeM (setMail id _ x.mails)
            rw [sizeM_setMail]
            · exact h1.1
            · exact fun _ => rfl

theorem nextOf_append {l : List BoxP} {b : BoxP} {i : Int} (hi : i ∈ ids l) : nextOf (l ++ [b]) i = nextOf l i := by
  unfold nextOf
  rw [List.find?_append]
  obtain ⟨c, hc, rfl⟩ := List.mem_map.1 hi
  have : (l.find? (fun b => decide (b.id = c.id))).isSome = true := by
    rw [List.find?_isSome]
    exact ⟨c, hc, by simp⟩
  obtain ⟨d, hd⟩ := Option.isSome_iff_exists.1 this
  rw [hd]
  rfl

theorem makeP_fit (right : Text → Bool) (hr : ∀ t, right t = true → t.length ≤ 64) {x : Acc} (h : Fit x) (name : Text) (parent : Int) : Fit (makeP right x name parent).1 := by
  unfold makeP
  split
  · exact h
  · rename_i hright
    split
    · exact h
    · split
      · exact h
      · rename_i hend
        have hclock : x.clock + 1 ≤ x.cfg.maxMod := by
          have : ¬ x.cfg.maxMod ≤ x.clock := by simpa [Acc.ends] using hend
          omega
        have hlen : name.length ≤ 64 := hr name (by simpa using hright)
        refine ⟨h.cfg, ⟨by have := h.clock.1; show 1 ≤ x.clock + 1; omega, hclock⟩, ⟨by have := h.lastBox.1; show 1 ≤ x.lastBox + 1; omega, by have := h.lastBox.2; show x.lastBox + 1 ≤ x.clock + 1; omega⟩, ⟨h.lastId.1, by have := h.lastId.2; show x.lastId ≤ x.clock + 1; omega⟩, ?_, ?_, ?_, ?_, h.idsM, ?_, h.octets, log_add_ok h.cfg h.log _⟩
        · have := h.nb
          show ((x.boxes ++ [_]).length : Int) ≤ x.clock + 1
          rw [List.length_append, List.length_singleton]
          omega
        · have := h.nm
          show (x.mails.length : Int) ≤ x.clock + 1
          omega
        · show (ids (x.boxes ++ [_])).Nodup
          unfold ids
          rw [List.map_append, List.nodup_append]
          refine ⟨h.idsB, by simp, fun a ha b hb => ?_⟩
          obtain ⟨c, hc, rfl⟩ := List.mem_map.1 ha
          have h1 := (h.box c hc).id.2
          have h2 : b = x.lastBox + 1 := by simpa using hb
          rw [h2]
          omega
        · intro b hb
          rcases List.mem_append.1 hb with hb | hb
          · have h1 := h.box b hb
            exact ⟨⟨h1.id.1, by have := h1.id.2; show b.id ≤ x.lastBox + 1; omega⟩, h1.next, h1.name⟩
          · rw [List.mem_singleton] at hb
            subst hb
            exact ⟨⟨by have := h.lastBox.1; show 1 ≤ x.lastBox + 1; omega, Int.le_refl _⟩, ⟨Int.le_refl _, by have := h.cfg.uid.1; show (1:Int) ≤ x.cfg.maxUid + 1; omega⟩, hlen⟩
        · intro m hm
          have h1 := h.mail m hm
          refine ⟨h1.id, h1.keys, h1.mem.some_, h1.mem.rising, fun p hp => ?_⟩
          obtain ⟨h2, h3, h4⟩ := h1.mem.each p hp
          refine ⟨?_, h3, ?_⟩
          · show p.1 ∈ ids (x.boxes ++ [_])
            unfold ids
            rw [List.map_append]
            exact List.mem_append_left _ h2
          · show p.2 < nextOf (x.boxes ++ [_]) p.1
            rw [nextOf_append h2]
            exact h4

theorem boxStep_set (c : CfgP) (id : Int) (name : Text) (parent : Int) (hl : name.length ≤ 64) (l : List BoxP) (hn : (ids l).Nodup) : BoxStep c l (setBox id (fun b => { b with name := name, parent := parent }) l) := by
  rw [setBox_map _ _ _ hn]
  refine ⟨ids_map l _ (fun b => by split <;> rfl), fun last h b hb => ?_, nextOf_map l _ (fun b => by split <;> rfl) (fun b _ => by split <;> exact Int.le_refl _)⟩
  obtain ⟨a, ha, rfl⟩ := List.mem_map.1 hb
  have h1 := h a ha
  split
  · exact ⟨h1.id, h1.next, hl⟩
  · exact h1

theorem renameP_fit (right : Text → Bool) (hr : ∀ t, right t = true → t.length ≤ 64) {x : Acc} (h : Fit x) (id : Int) (name : Text) (parent : Int) : Fit (renameP right x id name parent).1 := by
  unfold renameP
  split
  · exact h
  · split
    · exact h
    · rename_i hright
      split
      · exact h
      · split
        · exact h
        · split
          · exact h
          · split
            · exact h
            · rename_i hend
              have hclock : x.clock + 1 ≤ x.cfg.maxMod := by
                have : ¬ x.cfg.maxMod ≤ x.clock := by simpa [Acc.ends] using hend
                omega
              have hlen : name.length ≤ 64 := hr name (by
                have : ¬ right name = false := fun e => hright (.inl e)
                simpa using this)
              have hs1 := boxStep_set x.cfg id name parent hlen x.boxes h.idsB
              have hs2 := boxStep_turn x.cfg (x.clock + 1) [id] _ (show (ids (setBox id (fun b => { b with name := name, parent := parent }) x.boxes)).Nodup by rw [hs1.ids]; exact h.idsB)
              have hs := hs1.trans hs2
              refine ⟨h.cfg, ⟨by have := h.clock.1; show 1 ≤ x.clock + 1; omega, hclock⟩, ⟨h.lastBox.1, by have := h.lastBox.2; show x.lastBox ≤ x.clock + 1; omega⟩, ⟨h.lastId.1, by have := h.lastId.2; show x.lastId ≤ x.clock + 1; omega⟩, ?_, ?_, ?_, hs.ok _ h.box, h.idsM, fun m hm => (h.mail m hm).step hs, h.octets, log_add_ok h.cfg h.log _⟩
              · have := h.nb
                show ((turnBoxes (x.clock + 1) [id] _).length : Int) ≤ x.clock + 1
                rw [hs.length]
                omega
              · have := h.nm
                show (x.mails.length : Int) ≤ x.clock + 1
                omega
              · show (ids (turnBoxes (x.clock + 1) [id] _)).Nodup
                rw [hs.ids]
                exact h.idsB

end Go.Proofs.YtmbibhphpjmboaaGreatDoor
