/-
  What the walk of pillarboxlaw18.StoreUids keeps: the account, the law's own list of numbers that were seen.
-/
import Derived.Test.YtmbibhphpjmboaaGreatDoorHeavyM
import Derived.Test.YtmbibhphpjmboaaGreatDoorGV
import Derived.Test.YtmbibhphpjmboaaGreatDoorGM
import Derived.Test.YtmbibhphpjmboaaGreatDoorSameMM
import Derived.Test.YtmbibhphpjmboaaGreatDoorGX
import Derived.Test.YtmbibhphpjmboaaGreatDoorGC
namespace Go.Proofs.YtmbibhphpjmboaaGreatDoor
open Go.RowKit

theorem slice_addr {b b' o o' n n' c c' : Nat} (h : Value.slice (some ⟨b, o, none⟩) n c = .slice (some ⟨b', o', none⟩) n' c') : b = b' ∧ o = o' := by
  injection h with h
  injection h with h
  injection h with h1 h2
  exact ⟨h1, h2⟩
/-- A number that was seen, in memory. -/
structure UseM where
  p : UseP
  valid : Int
def encU (u : UseM) : List Value := [.int .i64 u.p.box, .int .i64 u.valid, .int .i64 u.p.uid, .int .i64 u.p.mail]
theorem encU_length (u : UseM) : (encU u).length = 4 := rfl
theorem encU_one (u : UseM) : ∀ v ∈ encU u, v.oneCell' = true := by
  intro v hv
  simp only [encU, List.mem_cons, List.not_mem_nil, or_false] at hv
  rcases hv with rfl | rfl | rfl | rfl <;> rfl

theorem doP_cfg (x : Acc) (a : ActP) : (doP x a).1.cfg = x.cfg := by
  unfold doP
  split
  · show (makeP rightU x _ _).1.cfg = _
    unfold makeP
    repeat (first | rfl | split)
  split
  · unfold renameP
    repeat (first | rfl | split)
  split
  · unfold dropP
    repeat (first | rfl | split)
  split
  · show (appendP headF x _ _ _ _).1.cfg = _
    unfold appendP appendK
    repeat (first | rfl | split)
  split
  · unfold keysP keysK
    repeat (first | rfl | split)
  split
  · unfold placeP
    split
    · rfl
    split
    · rfl
    split
    · rfl
    dsimp only
    split
    · rfl
    split
    · rfl
    · rfl
  split
  · unfold destroyP
    repeat (first | rfl | split)
  · rfl

/-- The law's list of numbers that were seen. -/
structure UsesAt (w wr : World) (own : List Nat) (ev : List UseM) (v : Value) (h : Option Nat) : Prop where
  sl : Sl wr 73 4 v h ev.length (flatG encU ev)
  no : ∀ b, h = some b → b ∉ own
  new : ∀ b, h = some b → w.heap.size ≤ b
theorem UsesAt.nil (w wr : World) (own : List Nat) : UsesAt w wr own [] (.slice none 0 0) none := ⟨Sl.nil _ _ _, (fun b h => by cases h), (fun b h => by cases h)⟩
theorem UsesAt.later {w wr w' : World} {own : List Nat} {ev : List UseM} {v : Value} {h : Option Nat} (u : UsesAt w wr own ev v h) (hb : Below wr.heap.size wr w') : UsesAt w w' own ev v h :=
  ⟨u.sl.keep (fun b hb2 => hb.block b (u.sl.lt b hb2)), u.no, u.new⟩
theorem UsesAt.turned {w wr w' : World} {g : Nat} {q q' : Lies} {x' : Acc} {ev : List UseM} {v : Value} {h : Option Nat} (u : UsesAt w wr (q.own g) ev v h) (ht : Turned wr w' g q x' q') : UsesAt w w' (q'.own g) ev v h :=
  ⟨u.sl.chg ht.chg u.no, fun b hb hm => by
    rcases ht.own b hm with h1 | h1
    · exact u.no b hb h1
    · have := u.sl.lt b hb
      omega, u.new⟩

/-- .. grows: the account stands. -/
theorem UsesAt.grown {w wr w1 w' : World} {g : Nat} {q : Lies} {x : Acc} {ev : List UseM} {v v' : Value} {h h' : Option Nat} (u : UsesAt w wr (q.own g) ev v h) (ho : OwnStore w wr g q x) (hb1 : Below wr.heap.size wr w1) (y : UseM) (hs : Sl w' 73 4 v' h' (ev.length + 1) (flatG encU ev ++ encU y)) (hc : Chg h.toList w1 w') (hn : h' = h ∨ ∃ k, h' = some k ∧ w1.heap.size ≤ k) :
    OwnStore w w' g q x ∧ UsesAt w w' (q.own g) (ev ++ [y]) v' h' := by
  have hst := ho.at_.later hb1
  have hbl := below_then ho.below hb1
  have hbw : Below w.heap.size w w' := hbl.trans (hc.below hbl.size (fun k hk => u.new k (by simpa using hk)))
  refine ⟨⟨?_, hbw, ho.own⟩, ⟨?_, fun b hb => ?_, fun b hb => ?_⟩⟩
  · rcases u.sl.2 with ⟨rfl, _⟩ | ⟨b, off, cap, cur, rfl, _, hB, _⟩
    · exact hst.later (hc.below (Nat.le_refl _) (by simp))
    · exact hst.other (hB.below hb1 hB.lt) (by decide) (by decide) (u.no b rfl) hc
  · rw [List.length_append, List.length_singleton, flatG_append]
    have : flatG encU [y] = encU y := by simp [flatG]
    rw [this]
    exact hs
  · rcases hn with h1 | ⟨k, h1, h2⟩
    · exact u.no b (h1 ▸ hb)
    · rw [h1] at hb
      injection hb with hb
      subst hb
      intro hm
      have h3 := hst.lt k hm
      omega
  · rcases hn with h1 | ⟨k, h1, h2⟩
    · exact u.new b (h1 ▸ hb)
    · rw [h1] at hb
      injection hb with hb
      subst hb
      have := hbl.size
      omega

theorem MailsAt.grown {w1 w' : World} {O : List Nat} {v : Value} {l : List MailP} {h h' : Option Nat} (hm : MailsAt w1 (h.toList ++ O) v l) (hc : Chg h.toList w1 w') (hn : h' = h ∨ ∃ k, h' = some k ∧ w1.heap.size ≤ k) : MailsAt w' (h'.toList ++ O) v l := by
  refine hm.keep hc.size (fun b hb hs => hc.block b hb (fun h1 => hs (List.mem_append_left _ h1))) (fun b hb hs hs2 => ?_)
  rcases List.mem_append.1 hs2 with h1 | h1
  · rcases hn with h2 | ⟨k, h2, h3⟩
    · rw [h2] at h1
      exact hs (List.mem_append_left _ h1)
    · rw [h2] at h1
      simp at h1
      omega
  · exact hs (List.mem_append_right _ h1)
theorem MailsAt.below2 {w w' : World} {S : List Nat} {v : Value} {l : List MailP} (h : MailsAt w S v l) (hb : Below w.heap.size w w') : MailsAt w' S v l :=
  h.keep hb.size (fun b hb2 _ => hb.block b hb2) (fun _ _ h => h)

/-- What holds at each turn of the law's loop. -/
structure UidR (w wr : World) (g : Nat) (q : Lies) (x : Acc) (ev : List UseM) (v : Value) (h : Option Nat) (N : Nat) : Prop where
  own : OwnStore w wr g q x
  fit : Fit x
  cfg : x.cfg.maxMod = 257
  ok : UsesOk x (ev.map (·.p))
  at_ : UsesAt w wr (q.own g) ev v h
  len : ev.length ≤ N
/-- .. within an act: its mailboxes and emails as told. -/
structure UidX (w wr : World) (g : Nat) (q : Lies) (x : Acc) (ev : List UseM) (v : Value) (h : Option Nat) (N : Nat) (vb : Value) (hb : Option Nat) (vm : Value) : Prop where
  r : UidR w wr g q x ev v h N
  bx : Sl wr 52 6 vb hb x.boxes.length (flatG encB x.boxes)
  ms : MailsAt wr (h.toList ++ q.own g) vm x.mails

section
variable {w wr w1 w' : World} {g : Nat} {q q' : Lies} {x x' : Acc} {ev : List UseM} {v v' : Value} {h h' : Option Nat} {N N' : Nat} {vb : Value} {hb : Option Nat} {vm : Value}
theorem UidR.later (u : UidR w wr g q x ev v h N) (hb : Below wr.heap.size wr w') : UidR w w' g q x ev v h N := ⟨u.own.later hb, u.fit, u.cfg, u.ok, u.at_.later hb, u.len⟩
theorem UidR.more (u : UidR w wr g q x ev v h N) (hn : N ≤ N') : UidR w wr g q x ev v h N' := ⟨u.own, u.fit, u.cfg, u.ok, u.at_, Nat.le_trans u.len hn⟩
theorem UidX.later (u : UidX w wr g q x ev v h N vb hb vm) (hb2 : Below wr.heap.size wr w') : UidX w w' g q x ev v h N vb hb vm :=
  ⟨u.r.later hb2, u.bx.keep (fun b h1 => hb2.block b (u.bx.lt b h1)), u.ms.below2 hb2⟩
theorem UidX.more (u : UidX w wr g q x ev v h N vb hb vm) (hn : N ≤ N') : UidX w wr g q x ev v h N' vb hb vm := ⟨u.r.more hn, u.bx, u.ms⟩
theorem UidR.act (u : UidR w wr g q x ev v h N) (a : ActP) (ht : Turned wr w' g q (doP x a).1 q') : UidR w w' g q' (doP x a).1 ev v h N :=
  ⟨u.own.turned ht, doP_fit u.fit a, by rw [doP_cfg]; exact u.cfg, u.ok.step u.fit (doP_evo u.fit a), u.at_.turned ht, u.len⟩
theorem UidR.small (u : UidR w wr g q x ev v h N) : x.boxes.length ≤ 257 ∧ x.mails.length ≤ 257 ∧ ∀ m ∈ x.mails, m.members.length ≤ 257 := by
  have h1 := u.fit.nb
  have h2 := u.fit.nm
  have h3 := u.fit.clock
  have h4 := u.cfg
  have hb : x.boxes.length ≤ 257 := by omega
  refine ⟨hb, by omega, fun m hm => ?_⟩
  have h5 := nodup_sub_length (m.members.map (·.1)) (ids x.boxes) (nodup_of_rising (u.fit.mail m hm).mem.rising) (u.fit.memIn hm)
  simp only [ids, List.length_map] at h5
  omega
theorem UidR.olds (u : UidR w wr g q x ev v h N) : ∀ b ∈ h.toList ++ q.own g, b < wr.heap.size := fun b hb => by
  rcases List.mem_append.1 hb with h1 | h1
  · exact u.at_.sl.lt b (by simpa using h1)
  · exact u.own.at_.lt b h1
theorem UidX.grown (u : UidX w wr g q x ev v h N vb hb vm) (hb1 : Below wr.heap.size wr w1) {m : MailP} (hm : m ∈ x.mails) {p : Int × Int} (hp : p ∈ m.members) (y : UseM) (hy : y.p = ⟨p.1, p.2, m.id⟩)
    (hs : Sl w' 73 4 v' h' (ev.length + 1) (flatG encU ev ++ encU y)) (hc : Chg h.toList w1 w') (hn : h' = h ∨ ∃ k, h' = some k ∧ w1.heap.size ≤ k) : UidX w w' g q x (ev ++ [y]) v' h' (N + 1) vb hb vm := by
  obtain ⟨h1, h2⟩ := u.r.at_.grown u.r.own hb1 y hs hc hn
  refine ⟨⟨h1, u.r.fit, u.r.cfg, ?_, h2, by rw [List.length_append, List.length_singleton]; have := u.r.len; omega⟩, ?_, (u.ms.below2 hb1).grown hc hn⟩
  · rw [List.map_append]
    have h3 := u.r.ok.seen u.r.fit hm hp
    rw [← hy] at h3
    exact h3
  · refine (u.bx.keep (fun b h1 => hb1.block b (u.bx.lt b h1))).chg hc (fun b hb2 hm2 => ?_)
    exact u.bx.ne_sl u.r.at_.sl (by decide) b hb2 (by simpa using hm2)
end

/-- Where a mailbox is found, going by its Ids: the last one so far. -/
def FindS (l : List BoxP) (id : Int) (k : Nat) (av : Int) : Prop := (av = -1 ∧ ∀ t (ht : t < l.length), t < k → l[t].id ≠ id) ∨ ∃ t, t < k ∧ av = (t : Int) ∧ ∃ ht : t < l.length, l[t].id = id
theorem FindS.step_no {l : List BoxP} {id : Int} {k : Nat} {av : Int} (h : FindS l id k av) (hk : k < l.length) (hn : l[k].id ≠ id) : FindS l id (k + 1) av := by
  rcases h with ⟨h1, h2⟩ | ⟨t, h1, h2, h3⟩
  · refine .inl ⟨h1, fun t ht h3 => ?_⟩
    by_cases h4 : t < k
    · exact h2 t ht h4
    · obtain rfl : t = k := by omega
      exact hn
  · exact .inr ⟨t, by omega, h2, h3⟩
theorem FindS.done {l : List BoxP} {id : Int} {av : Int} (h : FindS l id l.length av) (hi : id ∈ ids l) (hn : (ids l).Nodup) : ∃ t, ∃ ht : t < l.length, av = (t : Int) ∧ l[t].id = id ∧ nextOf l id = l[t].next := by
  rcases h with ⟨_, h2⟩ | ⟨t, h1, h2, h3, h4⟩
  · obtain ⟨b, hb, hbi⟩ := List.mem_map.1 hi
    obtain ⟨t, ht, rfl⟩ := List.getElem_of_mem hb
    exact absurd hbi (h2 t ht ht)
  · refine ⟨t, h3, h2, h4, ?_⟩
    have := nextOf_mem hn (List.getElem_mem h3)
    rw [h4] at this
    exact this

end Go.Proofs.YtmbibhphpjmboaaGreatDoor
