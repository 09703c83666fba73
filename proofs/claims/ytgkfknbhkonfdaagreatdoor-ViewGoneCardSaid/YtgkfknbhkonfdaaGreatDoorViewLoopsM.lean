/-
  What the loops of ViewNew and ViewGone share: emails that come, emails that go, lists of numbers beside them.
-/
import Derived.Test.YtgkfknbhkonfdaaGreatDoorViewToldWM
import Derived.Test.YtgkfknbhkonfdaaGreatDoorIntsVM
namespace Go.Proofs.YtgkfknbhkonfdaaGreatDoor
open Go.Shelf Go.RowKit Go.Lib

theorem StoreAt.tys {w : World} {g : Nat} {q : Lies} {x : Acc} (h : StoreAt w g q x) {k : Nat} (hk : k ∈ q.own g) {t : TypeId} {cs : Array Value} (hB : Blk w k t cs) : t ≠ 3 := by
  obtain ⟨vl, hl1, hl2⟩ := h.log
  have hsl : ∀ {e : TypeId} {size n : Nat} {u : Value} {o : Option Nat} {xs : List Value}, Sl w e size u o n xs → o = some k → t = e := by
    intro e size n u o xs hs ho
    rcases hs.2 with ⟨h2, _⟩ | ⟨b, off, cap, cur, h2, _, h3, _⟩
    · rw [ho] at h2
      cases h2
    · rw [ho] at h2
      obtain rfl := Option.some.inj h2
      exact (hB.inj h3).1
  simp only [Lies.own, List.mem_cons, List.mem_append, Option.mem_toList] at hk
  rcases hk with rfl | rfl | (hk | hk) | hk
  · rw [(hB.inj h.blk).1]; decide
  · rw [(hB.inj hl1).1]; decide
  · rw [hsl hl2 hk]; decide
  · rw [hsl h.boxes hk]; decide
  · rw [hsl h.mails hk]; decide
/-- Blocks of whole numbers may turn. -/
theorem StoreAt.inted {w w' : World} {g : Nat} {q : Lies} {x : Acc} (h : StoreAt w g q x) {T : List Nat} (hc : Chg T w w') (hT : ∀ k ∈ T, ∃ cs, Blk w k 3 cs) : StoreAt w' g q x := by
  have hn : ∀ k ∈ q.own g, k ∉ T := fun k hk hm => by
    obtain ⟨cs, hB⟩ := hT k hm
    exact h.tys hk hB rfl
  have hty : ∀ e : TypeId, e ≠ 3 → ∀ k ∈ T, ∃ t cs, Blk w k t cs ∧ t ≠ e := fun e he k hk => by
    obtain ⟨cs, hB⟩ := hT k hk
    exact ⟨_, cs, hB, fun h => he h.symm⟩
  refine ⟨h.blk.chg hc (hn g Lies.own_g), h.log.chg hc (hn _ Lies.own_gl) (fun k hk => hn k (Lies.own_hl hk)), h.boxes.chg hc (fun k hk => hn k (Lies.own_hb hk)), h.same, h.mails.chg hc (fun k hk => hn k (Lies.own_hm hk)), fun m hm => ?_⟩
  have hp := h.parts m hm
  obtain ⟨k1, k2⟩ := hp.keys.others hp.tk hc (hty _ (by decide))
  obtain ⟨k3, k4⟩ := hp.mem.others hp.tm hc (hty _ (by decide))
  exact ⟨k1, k3, k2, k4⟩
theorem Sl.intBlk {w : World} {size n : Nat} {v : Value} {h : Option Nat} {xs : List Value} (hs : Sl w 3 size v h n xs) : ∀ k ∈ h.toList, ∃ cs, Blk w k 3 cs := fun k hk => by
  have hk1 : h = some k := by simpa using hk
  rcases hs.2 with ⟨h2, _⟩ | ⟨b, off, cap, cur, h2, _, h3, _⟩
  · rw [hk1] at h2
    cases h2
  · rw [hk1] at h2
    obtain rfl := Option.some.inj h2
    exact ⟨_, h3⟩
/-- A list of numbers of the law's own. -/
structure OwnInts (w wr : World) (v : Value) (h : Option Nat) (n : Nat) (l : List Int) : Prop where
  sl : Sl wr 3 1 v h n (l.map encI)
  new : ∀ b, h = some b → w.heap.size ≤ b
theorem OwnInts.nil (w wr : World) : OwnInts w wr (.slice none 0 0) none 0 [] := ⟨Sl.nil _ _ _, fun b hb => by cases hb⟩
theorem OwnInts.later {w wr W : World} {v : Value} {h : Option Nat} {n : Nat} {l : List Int} (q : OwnInts w wr v h n l) (hb : Below wr.heap.size wr W) : OwnInts w W v h n l := ⟨q.sl.keep fun b hb2 => hb.block b (q.sl.lt b hb2), q.new⟩
theorem OwnInts.stored {w wr W : World} {v : Value} {h : Option Nat} {n : Nat} {l : List Int} (p : OwnInts w wr v h n l) {g : Nat} {q : Lies} {x : Acc} (hs : StoreAt wr g q x) (hc : Chg (q.own g) wr W) : OwnInts w W v h n l :=
  ⟨p.sl.chg hc fun b hb hm => by
    obtain ⟨cs, hB⟩ := p.sl.intBlk b (by simp [hb])
    exact hs.tys hm hB rfl, p.new⟩
theorem OwnStore.inted {w wr W : World} {g : Nat} {q : Lies} {x : Acc} (hO : OwnStore w wr g q x) {v : Value} {h : Option Nat} {n : Nat} {l : List Int} (p : OwnInts w wr v h n l) (hc : Chg h.toList wr W) : OwnStore w W g q x :=
  ⟨hO.at_.inted hc p.sl.intBlk, hO.below.trans (hc.below hO.below.size fun k hk => p.new k (by simpa using hk)), hO.own⟩
/-- One more at the end; another such list stands. -/
theorem OwnInts.push {w wr W W2 : World} {v v2 : Value} {h h2 : Option Nat} {n : Nat} {l : List Int} {y : Int} (p : OwnInts w wr v h n l) (hb : Below wr.heap.size wr W) (hw : w.heap.size ≤ wr.heap.size) (hs : Sl W2 3 1 v2 h2 (n + 1) (l.map encI ++ [.int .i64 y])) (ho : h2 = h ∨ ∃ g, h2 = some g ∧ W.heap.size ≤ g) : OwnInts w W2 v2 h2 (n + 1) (l ++ [y]) := by
  refine ⟨by rw [List.map_append]; exact hs, fun b hb2 => ?_⟩
  rcases ho with h3 | ⟨g, h3, h4⟩
  · exact p.new b (h3 ▸ hb2)
  · rw [h3] at hb2
    obtain rfl := Option.some.inj hb2
    exact Nat.le_trans hw (Nat.le_trans hb.size h4)
theorem OwnInts.other {w wr W2 : World} {v v' : Value} {h h' : Option Nat} {n n' : Nat} {l l' : List Int} (p : OwnInts w wr v h n l) (hne : ∀ b, h = some b → h' ≠ some b) (hc : Chg h'.toList wr W2) (_ : OwnInts w wr v' h' n' l') : OwnInts w W2 v h n l :=
  ⟨p.sl.chg hc fun b hb hm => hne b hb (by simpa using hm), p.new⟩

/-- An email goes; the law's own lists and views stand. -/
theorem destroy_turned {w wr : World} {g : Nat} {q : Lies} {x : Acc} (hO : OwnStore w wr g q x) (hf : Fit x) {i : Int} {x' : Acc} (hp : destroyP x i = (x', 0)) :
    Calls Tryz.prog 21 #[.pointer (some ⟨g, 0, none⟩), .int .i64 i] wr fun e w' => e = .returned (.int .i64 0) ∧ ∃ q', OwnStore w w' g q' x' ∧ Chg (q.own g) wr w' := by
  have h1 := destroy_said wr g q x i hO.at_ hf
  rw [hp] at h1
  refine h1.mono ?_
  rintro e w' ⟨rfl, q', hq⟩
  exact ⟨rfl, q', hO.turned hq, hq.chg⟩
theorem msOk_sub {ms ns : List MailP} (h : MsOk ms) (hs : ns.Sublist ms) : MsOk ns :=
  ⟨fun m hm => h.one m (hs.subset hm), fun m hm => h.keys m (hs.subset hm), fun m hm => h.num m (hs.subset hm), h.rising.sublist (hs.map _), Nat.le_trans hs.length_le h.few⟩
theorem msOk_G (gone : List Bool) {k i : Nat} (hk : k ≤ 1000) : MsOk (msG gone k i) := msOk_sub (msOk_msK hk) (List.filter_sublist ..)
/-- Emails come, one by one. -/
theorem app_step {x : Acc} {i : Nat} (h : ViSt x i i (msK i)) (hi : i ≤ 100) : ∃ x', appendP headF x [1] [] 0 xT = (x', ((i + 1 : Nat) : Int), 0) ∧ ViSt x' (i + 1) (i + 1) (msK (i + 1)) := by
  obtain ⟨x', h1, h2⟩ := h.app xT rfl headF_x hi (by omega)
  exact ⟨x', h1, by rw [msK_succ]; exact h2⟩

end Go.Proofs.YtgkfknbhkonfdaaGreatDoor
