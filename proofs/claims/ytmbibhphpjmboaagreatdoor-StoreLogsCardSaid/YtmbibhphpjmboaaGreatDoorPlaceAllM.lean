/-
  The store's Place, whole.
-/
import Derived.Test.YtmbibhphpjmboaaGreatDoorPlaceOkM
import Derived.Test.YtmbibhphpjmboaaGreatDoorGR
import Derived.Test.YtmbibhphpjmboaaGreatDoorGV
namespace Go.Proofs.YtmbibhphpjmboaaGreatDoor
open Go.RowKit

theorem placeP_ok {x : Acc} {id : Int} {bs : List Int} {m : MailP} (hfi : x.mails.find? (fun m => decide (m.id = id)) = some m) (hne : bs ≠ []) (hw : ((rise bs).any fun id => !hasBox x.boxes id) = false) :
    placeP x id bs = if ((rise bs).filter fun b => !decide (b ∈ ids1 m.members)).length + ((ids1 m.members).filter fun b => !decide (b ∈ rise bs)).length = 0 then (x, 0)
      else if x.ends || ((rise bs).filter fun b => !decide (b ∈ ids1 m.members)).any x.spent then (x, 11)
      else ({ x with clock := x.clock + 1, boxes := turnBoxes (x.clock + 1) (rise (((ids1 m.members).filter fun b => !decide (b ∈ rise bs)) ++ ((rise bs).filter fun b => !decide (b ∈ ids1 m.members)))) (numbers ((rise bs).filter fun b => !decide (b ∈ ids1 m.members)) x.boxes).1,
                     mails := setMail id (fun m' => { m' with members := sortM ((m'.members.filter fun p => !decide (p.1 ∈ ((ids1 m.members).filter fun b => !decide (b ∈ rise bs)))) ++ (numbers ((rise bs).filter fun b => !decide (b ∈ ids1 m.members)) x.boxes).2), mod := x.clock + 1 }) x.mails,
                     log := x.log.add (turnEnts (x.clock + 1) (rise (((ids1 m.members).filter fun b => !decide (b ∈ rise bs)) ++ ((rise bs).filter fun b => !decide (b ∈ ids1 m.members)))) ++ [⟨x.clock + 1, 2, id, 2⟩]) }, 0) := by
  unfold placeP
  rw [hfi]
  simp only [if_neg hne, hw, Bool.false_eq_true, if_false]
  rfl

theorem place_said : PlaceOk := by
  intro w g q x id bs vb Sb h hf hr hbl
  by_cases h0 : id ∈ idsMl x.mails
  case neg => exact place_none w g q x id bs vb h hf h0
  have h0' : id ∈ idsMl (q.ms.map (·.p)) := by rw [h.same]; exact h0
  obtain ⟨i, hi, hpl, _, _, hset, hfi⟩ := mail_at h0'
  rw [h.same] at hfi
  by_cases hne : bs = []
  · subst hne
    obtain ⟨A, c, rfl, _, _⟩ := hr.form
    exact place_empty w g q x id A c h hf i hi hpl hfi
  cases hw : ((rise bs).any fun id => !hasBox x.boxes id) with
  | true => exact place_unknown w g q x id bs vb Sb h hf hr (by omega) hne i hi hpl hfi hw
  | false =>
    obtain ⟨m0, hm0⟩ : ∃ m0, q.ms[i] = m0 := ⟨_, rfl⟩
    rw [hm0] at hfi
    have hP := placeP_ok hfi hne hw
    obtain ⟨fr, hfr⟩ : ∃ fr, ((rise bs).filter fun b => !decide (b ∈ ids1 m0.p.members)) = fr := ⟨_, rfl⟩
    obtain ⟨lf, hlf⟩ : ∃ lf, ((ids1 m0.p.members).filter fun b => !decide (b ∈ rise bs)) = lf := ⟨_, rfl⟩
    rw [hfr, hlf] at hP
    by_cases hs : fr.length + lf.length = 0
    · have hfr0 : fr = [] := List.eq_nil_of_length_eq_zero (by omega)
      have hlf0 : lf = [] := List.eq_nil_of_length_eq_zero (by omega)
      rw [hP, if_pos hs]
      refine (place_same w g q x id bs vb Sb h hf hr (by omega) hne i hi hpl hw m0 hm0 (hfr.trans hfr0) (hlf.trans hlf0)).mono ?_
      rintro e w' ⟨rfl, hb⟩
      exact ⟨rfl, q, Turned.of_below h hb⟩
    · rw [if_neg hs] at hP
      by_cases hen : x.cfg.maxMod ≤ x.clock
      · rw [hP, if_pos (by simp [Acc.ends, hen])]
        refine (place_ends w g q x id bs vb Sb h hf hr (by omega) hne i hi hpl hw m0 hm0 fr lf hfr hlf (by omega) hen).mono ?_
        rintro e w' ⟨rfl, hb⟩
        exact ⟨rfl, q, Turned.of_below h hb⟩
      · cases hsp : fr.any x.spent with
        | true =>
          rw [hP, if_pos (by simp [hsp])]
          refine (place_spent w g q x id bs vb Sb h hf hr (by omega) hne i hi hpl hw m0 hm0 fr lf hfr hlf (by omega) hen hsp).mono ?_
          rintro e w' ⟨rfl, hb⟩
          exact ⟨rfl, q, Turned.of_below h hb⟩
        | false =>
          rw [hP, if_neg (by simp [hsp, Acc.ends, hen])]
          refine (place_ok w g q x id bs vb Sb h hf hr (by omega) hne i hi hpl hw m0 hm0 fr lf hfr hlf (by omega) hen hsp).mono ?_
          rintro e w' ⟨rfl, q', ht⟩
          refine ⟨rfl, q', ?_⟩
          have h1 := hset (fun m' => { m' with members := sortM ((m'.members.filter fun p => !decide (p.1 ∈ lf)) ++ (numbers fr x.boxes).2), mod := x.clock + 1 })
          rw [h.same, hm0] at h1
          show Turned w w' g q ({ x with clock := x.clock + 1, boxes := _, mails := setMail id _ x.mails, log := _ } : Acc) q'
          rw [h1]
          exact ht

end Go.Proofs.YtmbibhphpjmboaaGreatDoor
