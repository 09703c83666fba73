/-
  What holds of every account, kept by Drop, Destroy, Place.
-/
import Derived.Test.YtmbibhphpjmboaaGreatDoorStoreFit3
namespace Go.Proofs.YtmbibhphpjmboaaGreatDoor

theorem place_pos {α : Type} (p : α → Bool) : ∀ l : List α, l.any p = true → 0 ≤ place p l
  | [], h => by simp at h
  | x :: r, h => by
    unfold place
    split
    · exact Int.le_refl _
    · rename_i hx
      have h1 : r.any p = true := by simpa [hx] using h
      have := place_pos p r h1
      split <;> omega
theorem place_neg {α : Type} (p : α → Bool) : ∀ l : List α, l.any p = false → place p l = -1
  | [], _ => rfl
  | x :: r, h => by
    have h1 : p x = false ∧ r.any p = false := by simpa using h
    unfold place
    rw [place_neg p r h1.2]
    simp [h1.1]
theorem eraseIdx_place {α : Type} (p : α → Bool) : ∀ l : List α, l.any p = true → l.eraseIdx (place p l).toNat = l.eraseP p
  | [], h => by simp at h
  | x :: r, h => by
    unfold place
    by_cases hx : p x = true
    · simp [hx]
    · have h1 : r.any p = true := by simpa [hx] using h
      have h2 := place_pos p r h1
      rw [if_neg hx, if_neg (by omega), List.eraseP_cons_of_neg (by simpa using hx), ← eraseIdx_place p r h1, show (place p r + 1).toNat = (place p r).toNat + 1 from by omega]
      rfl

theorem nextOf_eraseP {id i : Int} (hi : i ≠ id) : ∀ l : List BoxP, nextOf (l.eraseP fun b => decide (b.id = id)) i = nextOf l i
  | [] => rfl
  | b :: r => by
    by_cases hb : b.id = id
    · have h1 : ¬ b.id = i := fun e => hi (e.symm.trans hb)
      rw [List.eraseP_cons_of_pos (by simpa using hb)]
      unfold nextOf
      rw [List.find?_cons_of_neg (by simpa using h1)]
    · rw [List.eraseP_cons_of_neg (by simpa using hb)]
      have ih := nextOf_eraseP hi r
      unfold nextOf at ih ⊢
      by_cases h1 : b.id = i
      · rw [List.find?_cons_of_pos (by simpa using h1), List.find?_cons_of_pos (by simpa using h1)]
      · rw [List.find?_cons_of_neg (by simpa using h1), List.find?_cons_of_neg (by simpa using h1)]
        exact ih
theorem ids_eraseP {id i : Int} (hi : i ≠ id) : ∀ l : List BoxP, i ∈ ids l → i ∈ ids (l.eraseP fun b => decide (b.id = id))
  | [], h => h
  | b :: r, h => by
    have h' : i = b.id ∨ i ∈ ids r := by simpa [ids] using h
    by_cases hb : b.id = id
    · rw [List.eraseP_cons_of_pos (by simpa using hb)]
      rcases h' with h' | h'
      · exact absurd (h'.trans hb) hi
      · exact h'
    · rw [List.eraseP_cons_of_neg (by simpa using hb)]
      rcases h' with h' | h'
      · simp [ids, h']
      · have := ids_eraseP hi r h'
        simp only [ids, List.map_cons, List.mem_cons] at this ⊢
        exact .inr this

theorem dropP_fit {x : Acc} (h : Fit x) (id : Int) : Fit (dropP x id).1 := by
  unfold dropP
  split
  · exact h
  · rename_i hhas
    split
    · exact h
    · split
      · exact h
      · rename_i hbusy
        split
        · exact h
        · rename_i hend
          have hclock : x.clock + 1 ≤ x.cfg.maxMod := by
            have : ¬ x.cfg.maxMod ≤ x.clock := by simpa [Acc.ends] using hend
            omega
          have hany : x.boxes.any (fun b => decide (b.id = id)) = true := by
            have : ¬ hasBox x.boxes id = false := hhas
            simpa [hasBox] using this
          have he : x.boxes.eraseIdx (boxOf id x.boxes).toNat = x.boxes.eraseP fun b => decide (b.id = id) := eraseIdx_place _ _ hany
          have hno : ∀ m ∈ x.mails, ∀ p ∈ m.members, p.1 ≠ id := by
            intro m hm p hp e
            apply hbusy
            rw [Bool.or_eq_true]
            exact .inr (List.any_eq_true.2 ⟨m, hm, List.any_eq_true.2 ⟨p, hp, by simpa using e⟩⟩)
          have hsub := List.eraseP_sublist (l := x.boxes) (p := fun b => decide (b.id = id))
          simp only [he]
          refine ⟨h.cfg, ⟨by have := h.clock.1; show 1 ≤ x.clock + 1; omega, hclock⟩, ⟨h.lastBox.1, by have := h.lastBox.2; show x.lastBox ≤ x.clock + 1; omega⟩, ⟨h.lastId.1, by have := h.lastId.2; show x.lastId ≤ x.clock + 1; omega⟩, ?_, ?_, ?_, fun b hb => h.box b (hsub.subset hb), h.idsM, ?_, h.octets, log_add_ok h.cfg h.log _⟩
          · have := h.nb
            have := hsub.length_le
            show ((x.boxes.eraseP _).length : Int) ≤ x.clock + 1
            omega
          · have := h.nm
            show (x.mails.length : Int) ≤ x.clock + 1
            omega
          · exact (hsub.map _).nodup h.idsB
          · intro m hm
            have h1 := h.mail m hm
            refine ⟨h1.id, h1.keys, h1.mem.some_, h1.mem.rising, fun p hp => ?_⟩
            obtain ⟨h2, h3, h4⟩ := h1.mem.each p hp
            have hne := hno m hm p hp
            exact ⟨ids_eraseP hne _ h2, h3, by show p.2 < nextOf (x.boxes.eraseP _) p.1; rw [nextOf_eraseP hne]; exact h4⟩

theorem sizeM_eraseP (p : MailP → Bool) : ∀ (l : List MailP) (m : MailP), l.find? p = some m → sizeM (l.eraseP p) = sizeM l - m.text.length
  | [], m, h => by simp at h
  | a :: r, m, h => by
    have h1 : ∀ (a : MailP) (l : List MailP), sizeM (a :: l) = a.text.length + sizeM l := fun a l => by simp [sizeM]
    by_cases ha : p a = true
    · rw [List.find?_cons_of_pos ha] at h
      obtain rfl := Option.some.inj h
      rw [List.eraseP_cons_of_pos ha, h1]
      omega
    · rw [List.find?_cons_of_neg ha] at h
      rw [List.eraseP_cons_of_neg ha, h1, h1, sizeM_eraseP p r m h]
      omega

theorem destroyP_fit {x : Acc} (h : Fit x) (id : Int) : Fit (destroyP x id).1 := by
  unfold destroyP
  split
  · exact h
  · rename_i m hm
    split
    · exact h
    · rename_i hend
      have hclock : x.clock + 1 ≤ x.cfg.maxMod := by
        have : ¬ x.cfg.maxMod ≤ x.clock := by simpa [Acc.ends] using hend
        omega
      have hany : x.mails.any (fun m => decide (m.id = id)) = true := List.any_eq_true.2 ⟨m, List.mem_of_find?_eq_some hm, List.find?_some (p := fun m : MailP => decide (m.id = id)) hm⟩
      have he : x.mails.eraseIdx (mailOf id x.mails).toNat = x.mails.eraseP fun m => decide (m.id = id) := eraseIdx_place _ _ hany
      have hsub := List.eraseP_sublist (l := x.mails) (p := fun m => decide (m.id = id))
      simp only [he]
      have hs := boxStep_turn x.cfg (x.clock + 1) (rise (m.members.map (·.1))) x.boxes h.idsB
      refine ⟨h.cfg, ⟨by have := h.clock.1; show 1 ≤ x.clock + 1; omega, hclock⟩, ⟨h.lastBox.1, by have := h.lastBox.2; show x.lastBox ≤ x.clock + 1; omega⟩, ⟨h.lastId.1, by have := h.lastId.2; show x.lastId ≤ x.clock + 1; omega⟩, ?_, ?_, ?_, hs.ok _ h.box, ?_, fun a ha => (h.mail a (hsub.subset ha)).step hs, ?_, log_add_ok h.cfg h.log _⟩
      · have := h.nb
        show ((turnBoxes (x.clock + 1) _ x.boxes).length : Int) ≤ x.clock + 1
        rw [hs.length]
        omega
      · have := h.nm
        have := hsub.length_le
        show ((x.mails.eraseP _).length : Int) ≤ x.clock + 1
        omega
      · show (ids (turnBoxes (x.clock + 1) _ x.boxes)).Nodup
        rw [hs.ids]
        exact h.idsB
      · exact (hsub.map _).nodup h.idsM
      · have h1 := h.octets
        have h2 := sizeM_eraseP (fun m => decide (m.id = id)) x.mails m hm
        refine ⟨?_, ?_⟩
        · show x.octets - m.text.length = sizeM (x.mails.eraseP _)
          rw [h2, h1.1]
        · show x.octets - m.text.length ≤ x.cfg.maxSize
          omega

theorem mem_insM (p q : Int × Int) : ∀ l, q ∈ insM p l ↔ q = p ∨ q ∈ l
  | [] => by simp [insM]
  | z :: r => by
    unfold insM
    split
    · simp
    · simp only [List.mem_cons, mem_insM p q r]
      constructor
      · rintro (h | h | h)
        · exact .inr (.inl h)
        · exact .inl h
        · exact .inr (.inr h)
      · rintro (h | h | h)
        · exact .inr (.inl h)
        · exact .inl h
        · exact .inr (.inr h)
theorem insM_sorted (p : Int × Int) : ∀ l : List (Int × Int), l.Pairwise (fun a b => a.1 < b.1) → (∀ q ∈ l, q.1 ≠ p.1) → (insM p l).Pairwise (fun a b => a.1 < b.1)
  | [], _, _ => by simp [insM]
  | z :: r, h, hn => by
    obtain ⟨h1, h2⟩ := List.pairwise_cons.1 h
    unfold insM
    split
    · rename_i hx
      refine List.pairwise_cons.2 ⟨fun y hy => ?_, h⟩
      rcases List.mem_cons.1 hy with rfl | hy
      · exact hx
      · have := h1 y hy
        omega
    · rename_i hx
      have hz := hn z (by simp)
      refine List.pairwise_cons.2 ⟨fun y hy => ?_, insM_sorted p r h2 fun q hq => hn q (by simp [hq])⟩
      rcases (mem_insM p y r).1 hy with rfl | hy
      · omega
      · exact h1 y hy
theorem sortM_from : ∀ (l acc : List (Int × Int)), acc.Pairwise (fun a b => a.1 < b.1) → (l.map (·.1)).Nodup → (∀ q ∈ acc, q.1 ∉ l.map (·.1)) →
    (l.foldl (fun acc p => insM p acc) acc).Pairwise (fun a b => a.1 < b.1) ∧ ∀ q, q ∈ l.foldl (fun acc p => insM p acc) acc ↔ q ∈ acc ∨ q ∈ l
  | [], acc, h, _, _ => by simp [h]
  | p :: r, acc, h, hn, hd => by
    have hn' : p.1 ∉ r.map (·.1) ∧ (r.map (·.1)).Nodup := by
      rw [List.map_cons, List.nodup_cons] at hn
      exact hn
    have hd1 : ∀ q ∈ acc, q.1 ≠ p.1 := fun q hq e => hd q hq (by rw [List.map_cons, e]; simp)
    obtain ⟨h1, h2⟩ := sortM_from r (insM p acc) (insM_sorted p acc h hd1) hn'.2 (fun q hq => by
      rcases (mem_insM p q acc).1 hq with rfl | hq
      · exact hn'.1
      · exact fun e => hd q hq (by rw [List.map_cons]; exact List.mem_cons_of_mem _ e))
    refine ⟨h1, fun q => ?_⟩
    rw [List.foldl_cons, h2, mem_insM, List.mem_cons]
    constructor
    · rintro ((h | h) | h)
      · exact .inr (.inl h)
      · exact .inl h
      · exact .inr (.inr h)
    · rintro (h | h | h)
      · exact .inl (.inr h)
      · exact .inl (.inl h)
      · exact .inr h
theorem sortM_ok {l : List (Int × Int)} (h : (l.map (·.1)).Nodup) : (sortM l).Pairwise (fun a b => a.1 < b.1) ∧ ∀ q, q ∈ sortM l ↔ q ∈ l := by
  obtain ⟨h1, h2⟩ := sortM_from l [] List.Pairwise.nil h (by simp)
  exact ⟨h1, fun q => by simpa [sortM] using h2 q⟩

/-- An email's members behind a Place. -/
def placedP (bs : List BoxP) (m : List (Int × Int)) (boxes : List Int) : List (Int × Int) :=
  sortM ((m.filter fun p => !decide (p.1 ∈ (m.map (·.1)).filter fun b => !decide (b ∈ rise boxes))) ++ ((rise boxes).filter fun b => !decide (b ∈ m.map (·.1))).map fun id => (id, nextOf bs id))
theorem placed_nodup {bs : List BoxP} {m : List (Int × Int)} {boxes : List Int} (hm : MemOk bs m) :
    (((m.filter fun p => !decide (p.1 ∈ (m.map (·.1)).filter fun b => !decide (b ∈ rise boxes))) ++ ((rise boxes).filter fun b => !decide (b ∈ m.map (·.1))).map fun id => (id, nextOf bs id)).map (·.1)).Nodup := by
  rw [List.map_append, List.nodup_append]
  refine ⟨((List.filter_sublist (l := m)).map (·.1)).nodup (nodup_of_rising hm.rising), ?_, fun a ha b hb => ?_⟩
  · rw [List.map_map]
    have : (((rise boxes).filter fun b => !decide (b ∈ m.map (·.1))).map ((fun p : Int × Int => p.1) ∘ fun id => (id, nextOf bs id))) = (rise boxes).filter fun b => !decide (b ∈ m.map (·.1)) := by
      conv => rhs; rw [← List.map_id ((rise boxes).filter _)]
      exact List.map_congr_left fun _ _ => rfl
    rw [this]
    exact (List.filter_sublist (l := rise boxes)).nodup (rise_nodup boxes)
  · rintro rfl
    obtain ⟨p, hp, rfl⟩ := List.mem_map.1 ha
    obtain ⟨q, hq, hqe⟩ := List.mem_map.1 hb
    obtain ⟨i, hi, rfl⟩ := List.mem_map.1 hq
    have h1 : p.1 ∈ m.map (·.1) := List.mem_map_of_mem (List.mem_filter.1 hp).1
    have h2 := (List.mem_filter.1 hi).2
    have h3 : i = p.1 := hqe
    rw [h3] at h2
    simp only [Bool.not_eq_true', decide_eq_false_iff_not] at h2
    exact h2 h1
theorem placed_ok {c : CfgP} {bs bs' : List BoxP} {m : List (Int × Int)} {boxes : List Int} (hm : MemOk bs m) (hne : boxes ≠ []) (hin : ∀ i ∈ rise boxes, i ∈ ids bs) (hs : BoxStep c bs bs')
    (hpos : ∀ i ∈ ids bs, 1 ≤ nextOf bs i) (hb : ∀ i ∈ rise boxes, i ∉ m.map (·.1) → nextOf bs i < nextOf bs' i) : MemOk bs' (placedP bs m boxes) := by
  have hnd := placed_nodup (bs := bs) (boxes := boxes) hm
  obtain ⟨h1, h2⟩ := sortM_ok hnd
  refine ⟨?_, ?_, fun p hp => ?_⟩
  · obtain ⟨i, hi⟩ : ∃ i, i ∈ boxes := by
      cases boxes with
      | nil => exact absurd rfl hne
      | cons i r => exact ⟨i, by simp⟩
    have hr := (mem_rise boxes i).2 hi
    intro e
    by_cases hw : i ∈ m.map (·.1)
    · obtain ⟨p, hp, rfl⟩ := List.mem_map.1 hw
      have h3 : p ∈ placedP bs m boxes := (h2 p).2 (List.mem_append_left _ (List.mem_filter.2 ⟨hp, by simp [hr]⟩))
      rw [e] at h3
      cases h3
    · have h3 : (i, nextOf bs i) ∈ placedP bs m boxes := (h2 _).2 (List.mem_append_right _ (List.mem_map.2 ⟨i, List.mem_filter.2 ⟨hr, by simpa using hw⟩, rfl⟩))
      rw [e] at h3
      cases h3
  · rw [List.pairwise_map]
    exact h1
  · rcases List.mem_append.1 ((h2 p).1 hp) with h3 | h3
    · exact (hm.step hs).each p (List.mem_filter.1 h3).1
    · obtain ⟨i, hi, rfl⟩ := List.mem_map.1 h3
      have h4 := List.mem_filter.1 hi
      have h5 : i ∉ m.map (·.1) := by simpa using h4.2
      exact ⟨by rw [hs.ids]; exact hin i h4.1, hpos i (hin i h4.1), hb i h4.1 h5⟩

theorem placeP_fit {x : Acc} (h : Fit x) (id : Int) (boxes : List Int) : Fit (placeP x id boxes).1 := by
  unfold placeP
  split
  · exact h
  · rename_i m hm
    split
    · exact h
    · rename_i hne
      split
      · exact h
      · rename_i hhas
        simp only []
        split
        · exact h
        · split
          · exact h
          · rename_i hend
            simp only [Bool.or_eq_true, not_or, Bool.not_eq_true] at hend
            obtain ⟨hend1, hend2⟩ := hend
            have hclock : x.clock + 1 ≤ x.cfg.maxMod := by
              have : ¬ x.cfg.maxMod ≤ x.clock := by simpa [Acc.ends] using hend1
              omega
            have hhas' : (rise boxes).any (fun id => !hasBox x.boxes id) = false := by simpa using hhas
            have hmm := List.mem_of_find?_eq_some hm
            have hfn : ((rise boxes).filter fun b => !decide (b ∈ m.members.map (·.1))).Nodup := (List.filter_sublist (l := rise boxes)).nodup (rise_nodup boxes)
            have hspent : ∀ i ∈ (rise boxes).filter (fun b => !decide (b ∈ m.members.map (·.1))), nextOf x.boxes i ≤ x.cfg.maxUid := by
              intro i hi
              have h1 : ¬ x.spent i = true := fun h2 => by
                have h3 := List.any_eq_true.2 ⟨i, hi, h2⟩
                rw [hend2] at h3
                cases h3
              have h4 : ¬ x.cfg.maxUid < nextOf x.boxes i := by simpa [Acc.spent] using h1
              omega
            rw [numbers_eq _ x.boxes h.idsB hfn]
            have hs1 : BoxStep x.cfg x.boxes (bumpAll ((rise boxes).filter fun b => !decide (b ∈ m.members.map (·.1))) x.boxes) := boxStep_bump _ _ _ fun b hb hi => by
              have := hspent _ hi
              rwa [nextOf_mem h.idsB hb] at this
            generalize hrl : rise ((m.members.map (·.1)).filter (fun b => !decide (b ∈ rise boxes)) ++ (rise boxes).filter (fun b => !decide (b ∈ m.members.map (·.1)))) = turned
            have hs2 : BoxStep x.cfg (bumpAll ((rise boxes).filter fun b => !decide (b ∈ m.members.map (·.1))) x.boxes) (turnBoxes (x.clock + 1) turned (bumpAll ((rise boxes).filter fun b => !decide (b ∈ m.members.map (·.1))) x.boxes)) := boxStep_turn _ _ _ _ (by rw [ids_bumpAll]; exact h.idsB)
            have hs := hs1.trans hs2
            simp only []
            refine ⟨h.cfg, ⟨by have := h.clock.1; show 1 ≤ x.clock + 1; omega, hclock⟩, ⟨h.lastBox.1, by have := h.lastBox.2; show x.lastBox ≤ x.clock + 1; omega⟩, ⟨h.lastId.1, by have := h.lastId.2; show x.lastId ≤ x.clock + 1; omega⟩, ?_, ?_, ?_, hs.ok _ h.box, ?_, ?_, ?_, log_add_ok h.cfg h.log _⟩
            · have := h.nb
              show ((turnBoxes (x.clock + 1) turned _).length : Int) ≤ x.clock + 1
              rw [hs.length]
              omega
            · have := h.nm
              show ((setMail id _ x.mails).length : Int) ≤ x.clock + 1
              rw [setMail_length]
              omega
            · show (ids (turnBoxes (x.clock + 1) turned _)).Nodup
              rw [hs.ids]
              exact h.idsB
            · show (idsMl (setMail id _ x.mails)).Nodup
              rw [setMail_ids]
              · exact h.idsM
              · exact fun _ => rfl
            · intro a ha
              rcases mem_setMail ha with ha | ⟨b, hb, rfl⟩
              · exact (h.mail a ha).step hs
              · have hbm : b = m := by
                  rw [hm] at hb
                  exact (Option.some.inj hb).symm
                subst hbm
                have h1 := h.mail b hmm
                refine ⟨h1.id, h1.keys, ?_⟩
                have h2 := placed_ok (c := x.cfg) h1.mem hne (fun i hi => hasBox_of_rise hhas' hi) hs (fun i hi => h.nextOf_pos hi) (fun i hi hw => by
                  have h3 := nextOf_bumpAll (is := (rise boxes).filter fun b_1 => !decide (b_1 ∈ b.members.map (·.1))) h.idsB (List.mem_filter.2 ⟨hi, by simpa using hw⟩) (hasBox_of_rise hhas' hi)
                  have h4 := hs2.next i
                  omega)
                exact h2
            · have h1 := h.octets
              refine ⟨?_, h1.2⟩
              show x.octets = sizeM (setMail id _ x.mails)
              rw [sizeM_setMail]
              · exact h1.1
              · exact fun _ => rfl

end Go.Proofs.YtmbibhphpjmboaaGreatDoor
