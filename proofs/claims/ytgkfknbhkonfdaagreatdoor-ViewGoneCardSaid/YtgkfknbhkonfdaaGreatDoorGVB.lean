/-
  A view in memory: its struct's block, its messages' block, a block for each number that was told; an account beside it.
  What turns a view in memory: a message that comes, the greatest number, what was told of one.
  A list of a mailbox's emails in memory, as the view's within makes it.
  The library's SortFunc over a mailbox's emails, as the view's within calls it.
  The walk of the view's within: a mailbox's emails, by rising numbers.
-/
import Derived.Test.YtgkfknbhkonfdaaGreatDoorGD
import Derived.Test.YtgkfknbhkonfdaaGreatDoorGVA
import Derived.Test.YtgkfknbhkonfdaaGreatDoorGM
import Derived.Test.YtgkfknbhkonfdaaGreatDoorGS
import Derived.Shelf.SlSortCmp.NoneTotal
namespace Go.Proofs.YtgkfknbhkonfdaaGreatDoor
open Go.RowKit

/-- A message in memory: what it is, the block of what was told. -/
structure MsgM where
  p : Msg
  t : Nat
instance : Inhabited MsgM := ⟨⟨default, 0⟩⟩
def encMsg (m : MsgM) : List Value := [.int .i64 m.p.uid, .int .i64 m.p.id, .pointer (some ⟨m.t, 0, none⟩)]
theorem encMsg_length (m : MsgM) : (encMsg m).length = 3 := rfl
theorem encMsg_one (m : MsgM) : ∀ u ∈ encMsg m, u.oneCell' = true := by
  intro u hu
  simp only [encMsg, List.mem_cons, List.not_mem_nil, or_false] at hu
  rcases hu with rfl | rfl | rfl <;> rfl
structure VLies where
  hl : Option Nat
  vl : Value
  ms : List MsgM
def VLies.own (q : VLies) (g : Nat) : List Nat := g :: (q.hl.toList ++ q.ms.map (·.t))
def cellsV (q : VLies) (v : ViewP) : Array Value := #[.int .i64 v.box, q.vl, .int .i64 v.had]

structure ViewAt (w : World) (g : Nat) (q : VLies) (v : ViewP) : Prop where
  blk : Blk w g 85 (cellsV q v)
  same : q.ms.map (·.p) = v.l
  msgs : Sl w 96 3 q.vl q.hl v.l.length (flatG encMsg q.ms)
  told : ∀ m ∈ q.ms, Blk w m.t 131 #[.int .i64 m.p.told]
  nodup : (q.ms.map (·.t)).Nodup
structure VTurned (w w' : World) (g : Nat) (q : VLies) (v' : ViewP) (q' : VLies) : Prop where
  at_ : ViewAt w' g q' v'
  chg : Chg (q.own g) w w'
  own : ∀ k ∈ q'.own g, k ∈ q.own g ∨ w.heap.size ≤ k
/-- The types of a view's blocks, and those of an account's. -/
def VTy (t : TypeId) : Prop := t = 85 ∨ t = 96 ∨ t = 131

section
variable {w w' w'' : World} {g : Nat} {q q' q'' : VLies} {v v' v'' : ViewP} {S : List Nat}

theorem VLies.own_g : g ∈ q.own g := by simp [VLies.own]
theorem VLies.own_hl {k : Nat} (h : q.hl = some k) : k ∈ q.own g := by simp [VLies.own, h]
theorem VLies.own_t {m : MsgM} (h : m ∈ q.ms) : m.t ∈ q.own g := by
  simp only [VLies.own, List.mem_cons, List.mem_append, List.mem_map]
  exact .inr (.inr ⟨m, h, rfl⟩)
theorem VLies.own_cases {k : Nat} (h : k ∈ q.own g) : k = g ∨ q.hl = some k ∨ ∃ m ∈ q.ms, m.t = k := by
  simp only [VLies.own, List.mem_cons, List.mem_append, List.mem_map, Option.mem_toList] at h
  rcases h with h | h | h
  · exact .inl h
  · exact .inr (.inl h)
  · exact .inr (.inr h)
theorem ViewAt.len (h : ViewAt w g q v) : q.ms.length = v.l.length := by
  have := congrArg List.length h.same
  simpa using this
theorem ViewAt.typed (h : ViewAt w g q v) {k : Nat} (hk : k ∈ q.own g) : ∃ t cs, Blk w k t cs ∧ VTy t := by
  rcases VLies.own_cases hk with rfl | h1 | ⟨m, hm, rfl⟩
  · exact ⟨_, _, h.blk, .inl rfl⟩
  · rcases h.msgs.2 with ⟨h2, _⟩ | ⟨b, off, cap, cur, h2, _, h3, _⟩
    · rw [h1] at h2
      cases h2
    · rw [h1] at h2
      obtain rfl := Option.some.inj h2
      exact ⟨_, _, h3, .inr (.inl rfl)⟩
  · exact ⟨_, _, h.told m hm, .inr (.inr rfl)⟩
theorem ViewAt.lt (h : ViewAt w g q v) {k : Nat} (hk : k ∈ q.own g) : k < w.heap.size := by
  obtain ⟨t, cs, hB, _⟩ := h.typed hk
  exact hB.lt
theorem ViewAt.chg (h : ViewAt w g q v) (hc : Chg S w w') (hS : ∀ k ∈ q.own g, k ∉ S) : ViewAt w' g q v :=
  ⟨h.blk.chg hc (hS g VLies.own_g), h.same, h.msgs.chg hc (fun b hb => hS b (VLies.own_hl hb)), fun m hm => (h.told m hm).chg hc (hS _ (VLies.own_t hm)), h.nodup⟩
theorem ViewAt.later (h : ViewAt w g q v) (hb : Below w.heap.size w w') : ViewAt w' g q v := h.chg (Chg.of_below hb []) (by simp)
theorem VTurned.refl (h : ViewAt w g q v) : VTurned w w g q v q := ⟨h, Chg.refl _ _, fun _ h => .inl h⟩
theorem VTurned.of_below (h : ViewAt w g q v) (hb : Below w.heap.size w w') : VTurned w w' g q v q := ⟨h.later hb, Chg.of_below hb _, fun _ h => .inl h⟩
theorem VTurned.trans (h : VTurned w w' g q v' q') (k : VTurned w' w'' g q' v'' q'') : VTurned w w'' g q v'' q'' :=
  ⟨k.at_, h.chg.trans k.chg h.own, fun i hi => by
    rcases k.own i hi with h1 | h1
    · exact h.own i h1
    · exact .inr (Nat.le_trans h.chg.size h1)⟩
theorem VTurned.after (hb : Below w.heap.size w w') (k : VTurned w' w'' g q v' q') : VTurned w w'' g q v' q' :=
  ⟨k.at_, (Chg.of_below hb (q.own g)).trans k.chg (fun _ h => .inl h), fun i hi => by
    rcases k.own i hi with h1 | h1
    · exact .inl h1
    · exact .inr (Nat.le_trans hb.size h1)⟩
theorem VTurned.then (h : VTurned w w' g q v' q') (hb : Below w'.heap.size w' w'') : VTurned w w'' g q v' q' := h.trans (VTurned.of_below h.at_ hb)
end

section
variable {w w' wr : World} {g gv : Nat} {q : Lies} {x x' : Acc} {qv qv' : VLies} {v v' : ViewP} {q' : Lies}

/-- An account's own blocks are of other types than a view's. -/
theorem StoreAt.noV (h : StoreAt w g q x) {k : Nat} (hk : k ∈ q.own g) {t : TypeId} {cs : Array Value} (hB : Blk w k t cs) : ¬ VTy t := by
  obtain ⟨vl, hl1, hl2⟩ := h.log
  have hsl : ∀ {e : TypeId} {size n : Nat} {u : Value} {o : Option Nat} {xs : List Value}, Sl w e size u o n xs → o = some k → t = e := by
    intro e size n u o xs hs ho
    rcases hs.2 with ⟨h2, _⟩ | ⟨b, off, cap, cur, h2, _, h3, _⟩
    · rw [ho] at h2
      cases h2
    · rw [ho] at h2
      obtain rfl := Option.some.inj h2
      exact (hB.inj h3).1
  simp only [Lies.own, List.mem_cons, List.mem_append, Option.mem_toList] at hk
  rcases hk with rfl | rfl | (hk | hk) | hk
  · rw [(hB.inj h.blk).1]; unfold VTy; decide
  · rw [(hB.inj hl1).1]; unfold VTy; decide
  · rw [hsl hl2 hk]; unfold VTy; decide
  · rw [hsl h.boxes hk]; unfold VTy; decide
  · rw [hsl h.mails hk]; unfold VTy; decide
theorem ViewAt.stored (h : ViewAt w gv qv v) (hs : StoreAt w g q x) (hc : Chg (q.own g) w w') : ViewAt w' gv qv v :=
  h.chg hc fun k hk hm => by
    obtain ⟨t, cs, hB, hT⟩ := h.typed hk
    exact hs.noV hm hB hT
/-- A slice that reads from blocks of type e reads the same where blocks of other types turn. -/
theorem RdS.others {S T : List Nat} {e : TypeId} {size n : Nat} {u : Value} {xs : List Value} (hr : RdS w S size u n xs) (ht : TyS w e u) (hc : Chg T w w') (hT : ∀ k ∈ T, ∃ t cs, Blk w k t cs ∧ t ≠ e) : RdS w' S size u n xs ∧ TyS w' e u := by
  have hnot : ∀ (a : Addr) (c : Nat), u = .slice (some a) n c → 0 < n → a.block ∉ T := by
    intro a c hv hn hm
    obtain ⟨t, cs, hB, hne⟩ := hT _ hm
    obtain ⟨cs', hB'⟩ := ht a n c hv hn
    exact hne (hB.inj hB').1
  refine ⟨⟨hr.1, ?_⟩, ?_⟩
  · rcases hr.2 with h0 | ⟨a, cap, hv, h1, h2, h3⟩
    · exact .inl h0
    · refine .inr ⟨a, cap, hv, h1, h2, fun hn => ?_⟩
      obtain ⟨r1, r2, r3, r4⟩ := h3 hn
      refine ⟨r1, Nat.lt_of_lt_of_le r2 hc.size, r3, fun j hj => ?_⟩
      rw [← r4 j hj]
      exact World.cell?_of_block (hc.block a.block r2 (hnot a cap hv hn))
  · intro a m c hv hm
    obtain ⟨cs, hB⟩ := ht a m c hv hm
    have hmn : m = n := by
      rcases hr.2 with ⟨h0, _⟩ | ⟨a', cap, h0, _⟩
      · rw [h0] at hv
        cases hv
      · rw [h0] at hv
        injection hv with _ h5 _
        exact h5.symm
    subst hmn
    exact ⟨cs, hB.chg hc (hnot a c hv hm)⟩
theorem StoreAt.viewed (h : StoreAt w g q x) {T : List Nat} (hc : Chg T w w') (hT : ∀ k ∈ T, ∃ t cs, Blk w k t cs ∧ VTy t) : StoreAt w' g q x := by
  have hn : ∀ k ∈ q.own g, k ∉ T := fun k hk hm => by
    obtain ⟨t, cs, hB, ht⟩ := hT k hm
    exact h.noV hk hB ht
  have hty : ∀ e : TypeId, ¬ VTy e → ∀ k ∈ T, ∃ t cs, Blk w k t cs ∧ t ≠ e := fun e he k hk => by
    obtain ⟨t, cs, hB, ht⟩ := hT k hk
    exact ⟨t, cs, hB, fun h => he (h ▸ ht)⟩
  refine ⟨h.blk.chg hc (hn g Lies.own_g), h.log.chg hc (hn _ Lies.own_gl) (fun k hk => hn k (Lies.own_hl hk)), h.boxes.chg hc (fun k hk => hn k (Lies.own_hb hk)), h.same, h.mails.chg hc (fun k hk => hn k (Lies.own_hm hk)), fun m hm => ?_⟩
  have hp := h.parts m hm
  obtain ⟨k1, k2⟩ := hp.keys.others hp.tk hc (hty _ (by unfold VTy; decide))
  obtain ⟨k3, k4⟩ := hp.mem.others hp.tm hc (hty _ (by unfold VTy; decide))
  exact ⟨k1, k3, k2, k4⟩
theorem StoreAt.vturned (h : StoreAt w g q x) (hv : ViewAt w gv qv v) (k : VTurned w w' gv qv v' qv') : StoreAt w' g q x := h.viewed k.chg fun _ hk => hv.typed hk

/-- A view of the law's own, beside an account of its own. -/
structure OwnView (w wr : World) (gv : Nat) (qv : VLies) (v : ViewP) : Prop where
  at_ : ViewAt wr gv qv v
  own : ∀ k ∈ qv.own gv, w.heap.size ≤ k
theorem OwnView.later (h : OwnView w wr gv qv v) (hb : Below wr.heap.size wr w') : OwnView w w' gv qv v := ⟨h.at_.later hb, h.own⟩
theorem OwnView.stored (h : OwnView w wr gv qv v) (hs : StoreAt wr g q x) (k : Turned wr w' g q x' q') : OwnView w w' gv qv v := ⟨h.at_.stored hs k.chg, h.own⟩
theorem OwnView.turned (h : OwnView w wr gv qv v) (hz : w.heap.size ≤ wr.heap.size) (k : VTurned wr w' gv qv v' qv') : OwnView w w' gv qv' v' := ⟨k.at_, fun i hi => by
  rcases k.own i hi with h1 | h1
  · exact h.own i h1
  · exact Nat.le_trans hz h1⟩
theorem OwnStore.viewed (h : OwnStore w wr g q x) (hv : OwnView w wr gv qv v) (k : VTurned wr w' gv qv v' qv') : OwnStore w w' g q x :=
  ⟨h.at_.vturned hv.at_ k, h.below.trans (k.chg.below h.below.size hv.own), h.own⟩
end

end Go.Proofs.YtgkfknbhkonfdaaGreatDoor

namespace Go.Proofs.YtgkfknbhkonfdaaGreatDoor
open Go.RowKit
section
variable {w w0 w' : World} {g : Nat} {q : VLies} {v : ViewP}

theorem ViewAt.g_hl (h : ViewAt w g q v) : q.hl ≠ some g := fun e => h.msgs.ne_blk h.blk (by decide) g e rfl
theorem ViewAt.t_hl (h : ViewAt w g q v) {k : Nat} {cs : Array Value} (hB : Blk w k 131 cs) : q.hl ≠ some k := fun e => h.msgs.ne_blk hB (by decide) k e rfl
theorem ViewAt.t_g (h : ViewAt w g q v) {k : Nat} {cs : Array Value} (hB : Blk w k 131 cs) : k ≠ g := hB.ne h.blk (by decide)

theorem ViewAt.push (h : ViewAt w g q v) (hb : Below w0.heap.size w0 w) (hv0 : ViewAt w0 g q v) (m : MsgM) (hm : Blk w m.t 131 #[.int .i64 m.p.told]) (hnew : w0.heap.size ≤ m.t) {v2 : Value} {h2 : Option Nat}
    (hs : Sl w' 96 3 v2 h2 (v.l.length + 1) (flatG encMsg q.ms ++ encMsg m)) (hc : Chg q.hl.toList w w') (ho : h2 = q.hl ∨ ∃ k, h2 = some k ∧ w.heap.size ≤ k) :
    VTurned w0 (w'.setCell ⟨g, 1, none⟩ v2) g q { v with l := v.l ++ [m.p] } ⟨h2, v2, q.ms ++ [m]⟩ := by
  have hgn : g ∉ q.hl.toList := fun hm => h.g_hl (by simpa using hm)
  have hg2 : h2 ≠ some g := fun e => by
    rcases ho with h3 | ⟨k, h3, h4⟩
    · exact h.g_hl (h3 ▸ e)
    · rw [h3] at e
      obtain rfl := Option.some.inj e
      have := h.blk.lt
      omega
  have ht : ∀ y : MsgM, y ∈ q.ms ++ [m] → Blk w y.t 131 #[.int .i64 y.p.told] := fun y hy => by
    rcases List.mem_append.1 hy with h3 | h3
    · exact h.told y h3
    · rw [List.mem_singleton.1 h3]
      exact hm
  refine ⟨⟨(h.blk.chg hc hgn).set 1 v2, ?_, ?_, fun y hy => ?_, ?_⟩, ?_, ?_⟩
  · rw [List.map_append, h.same]
    rfl
  · rw [flatG_snoc]
    show Sl _ _ 3 v2 h2 (v.l ++ [m.p]).length _
    rw [List.length_append]
    exact hs.far (p := ⟨g, 1, none⟩) hg2 _
  · exact ((ht y hy).chg hc (fun hm2 => h.t_hl (ht y hy) (by simpa using hm2))).far (p := ⟨g, 1, none⟩) (h.t_g (ht y hy)) _
  · rw [List.map_append, List.nodup_append]
    refine ⟨h.nodup, by simp, ?_⟩
    intro a ha b hb2 e
    obtain ⟨y, hy, rfl⟩ := List.mem_map.1 ha
    rw [List.map_singleton, List.mem_singleton] at hb2
    have := hv0.lt (VLies.own_t hy)
    omega
  · refine ((Chg.of_below hb (q.own g)).trans (hc.mono fun k hk => .inl ?_) (fun k hk => .inl hk)).set (.inl VLies.own_g) v2
    exact VLies.own_hl (by simpa using hk)
  · intro k hk
    rcases VLies.own_cases hk with rfl | h3 | ⟨y, hy, rfl⟩
    · exact .inl VLies.own_g
    · have h3' : h2 = some k := h3
      rcases ho with h4 | ⟨k2, h4, h5⟩
      · exact .inl (VLies.own_hl (h4 ▸ h3'))
      · rw [h4] at h3'
        obtain rfl := Option.some.inj h3'
        exact .inr (Nat.le_trans hb.size h5)
    · rcases List.mem_append.1 hy with h4 | h4
      · exact .inl (VLies.own_t h4)
      · rw [List.mem_singleton.1 h4]
        exact .inr hnew
theorem ViewAt.setHad (h : ViewAt w g q v) (u : Int) : VTurned w (w.setCell ⟨g, 2, none⟩ (.int .i64 u)) g q { v with had := u } q := by
  refine ⟨⟨h.blk.set 2 _, h.same, h.msgs.far (p := ⟨g, 2, none⟩) h.g_hl _, fun m hm => (h.told m hm).far (p := ⟨g, 2, none⟩) (h.t_g (h.told m hm)) _, h.nodup⟩, (Chg.refl (q.own g) w).set (p := ⟨g, 2, none⟩) (.inl VLies.own_g) _, fun k hk => .inl hk⟩
/-- The list is cut to another. -/
theorem ViewAt.setList (h : ViewAt w g q v) (l : List MsgM) (hl : ∀ m ∈ l, m ∈ q.ms) (hn : (l.map (·.t)).Nodup) {v2 : Value} (hs : Sl w' 96 3 v2 q.hl l.length (flatG encMsg l)) (hc : Chg q.hl.toList w w') :
    VTurned w (w'.setCell ⟨g, 1, none⟩ v2) g q { v with l := l.map (·.p) } ⟨q.hl, v2, l⟩ := by
  have hgn : g ∉ q.hl.toList := fun hm => h.g_hl (by simpa using hm)
  refine ⟨⟨(h.blk.chg hc hgn).set 1 v2, rfl, ?_, fun y hy => ?_, hn⟩, ?_, ?_⟩
  · show Sl _ _ 3 v2 q.hl (l.map (·.p)).length _
    rw [List.length_map]
    exact hs.far (p := ⟨g, 1, none⟩) h.g_hl _
  · have ht := h.told y (hl y hy)
    exact (ht.chg hc (fun hm2 => h.t_hl ht (by simpa using hm2))).far (p := ⟨g, 1, none⟩) (h.t_g ht) _
  · exact (hc.mono (T := q.own g) fun k hk => .inl (VLies.own_hl (by simpa using hk))).set (.inl VLies.own_g) v2
  · intro k hk
    rcases VLies.own_cases hk with rfl | h3 | ⟨y, hy, rfl⟩
    · exact .inl VLies.own_g
    · exact .inl (VLies.own_hl h3)
    · exact .inl (VLies.own_t (hl y hy))
def MsgM.set (m : MsgM) (u : Int) : MsgM := ⟨{ m.p with told := u }, m.t⟩
theorem flatG_setTold : ∀ (l : List MsgM) (i : Nat) (hi : i < l.length) (u : Int), flatG encMsg (l.set i (l[i].set u)) = flatG encMsg l
  | m :: r, 0, _, u => rfl
  | m :: r, i + 1, hi, u => by
    have ih := flatG_setTold r i (by simpa using hi) u
    simp only [List.set_cons_succ, List.getElem_cons_succ]
    unfold flatG at ih ⊢
    rw [List.flatMap_cons, List.flatMap_cons, ih]
theorem ViewAt.setTold (h : ViewAt w g q v) (i : Nat) (hi : i < q.ms.length) (hi2 : i < v.l.length) (u : Int) :
    VTurned w (w.setCell ⟨q.ms[i].t, 0, none⟩ (.int .i64 u)) g q { v with l := v.l.set i { v.l[i] with told := u } } ⟨q.hl, q.vl, q.ms.set i (q.ms[i].set u)⟩ := by
  have hB := h.told q.ms[i] (List.getElem_mem hi)
  have hp : q.ms[i].p = v.l[i] := by
    have h1 := h.same
    have h2 : (q.ms.map (·.p))[i]? = v.l[i]? := by rw [h1]
    rw [List.getElem?_map, List.getElem?_eq_getElem hi, List.getElem?_eq_getElem hi2] at h2
    exact Option.some.inj h2
  have hts : (q.ms.set i (q.ms[i].set u)).map (·.t) = q.ms.map (·.t) := by
    rw [List.map_set]
    have : (q.ms[i].set u).t = (q.ms.map (·.t))[i]'(by simpa using hi) := by simp [MsgM.set]
    rw [this, List.set_getElem_self]
  refine ⟨⟨h.blk.far (p := ⟨q.ms[i].t, 0, none⟩) (fun e => h.t_g hB e.symm) _, ?_, ?_, ?_, ?_⟩, (Chg.refl _ w).set (.inl (VLies.own_t (List.getElem_mem hi))) _, ?_⟩
  · rw [List.map_set, h.same]
    show v.l.set i (q.ms[i].set u).p = _
    unfold MsgM.set
    rw [hp]
  · show Sl _ _ 3 q.vl q.hl (v.l.set i _).length _
    rw [List.length_set, flatG_setTold]
    exact h.msgs.far (p := ⟨q.ms[i].t, 0, none⟩) (fun e => h.t_hl hB e) _
  · intro y hy
    obtain ⟨j, hj, rfl⟩ := List.getElem_of_mem hy
    have hj' : j < q.ms.length := by simpa using hj
    by_cases e : i = j
    · subst e
      rw [List.getElem_set_self]
      exact hB.set 0 _
    · rw [List.getElem_set_ne e]
      refine (h.told q.ms[j] (List.getElem_mem hj')).far (p := ⟨q.ms[i].t, 0, none⟩) (fun e2 => e ?_) _
      have h3 := h.nodup
      have h4 : (q.ms.map (·.t))[j]'(by simpa using hj') = (q.ms.map (·.t))[i]'(by simpa using hi) := by simpa using e2
      exact ((List.getElem_inj h3).1 h4).symm
  · show ((q.ms.set i (q.ms[i].set u)).map (·.t)).Nodup
    rw [hts]
    exact h.nodup
  · intro k hk
    refine .inl ?_
    have e : (⟨q.hl, q.vl, q.ms.set i (q.ms[i].set u)⟩ : VLies).own g = q.own g := by
      unfold VLies.own
      rw [hts]
    rw [e] at hk
    exact hk
end

end Go.Proofs.YtgkfknbhkonfdaaGreatDoor

namespace Go.Proofs.YtgkfknbhkonfdaaGreatDoor
open Go.Shelf Go.RowKit Go.Lib

/-- A mailbox's email in memory: its number, what it is, where its keywords and members lie. -/
structure ThM where
  u : Int
  p : MailP
  ka : Option Addr
  kc : Nat
  ma : Option Addr
  mc : Nat
instance : Inhabited ThM := ⟨⟨0, default, none, 0, none, 0⟩⟩
def ThM.m (z : ThM) : MailM := ⟨z.p, .slice z.ka z.p.keys.length z.kc, .slice z.ma z.p.members.length z.mc⟩
def ThM.z (z : ThM) : Int × MailP := (z.u, z.p)
def encTh (z : ThM) : List Value := .int .i64 z.u :: encM z.m
theorem encTh_length (z : ThM) : (encTh z).length = 9 := rfl
theorem encTh_one (z : ThM) : ∀ v ∈ encTh z, v.oneCell' = true := by
  intro v hv
  simp only [encTh, encM, ThM.m, List.mem_cons, List.not_mem_nil, or_false] at hv
  rcases hv with rfl | rfl | rfl | rfl | rfl | rfl | rfl | rfl | rfl <;> rfl
/-- An email that lies in memory, with a number. -/
theorem thM_of {w : World} {S : List Nat} {m : MailM} (h : PartAt w S m) (u : Int) : ∃ z : ThM, z.u = u ∧ z.p = m.p ∧ z.m = m := by
  obtain ⟨a, c, h1, _⟩ := h.keys.form
  obtain ⟨b, d, h2, _⟩ := h.mem.form
  refine ⟨⟨u, m.p, a, c, b, d⟩, rfl, rfl, ?_⟩
  obtain ⟨p, kv, mv⟩ := m
  simp only at h1 h2
  subst h1 h2
  rfl

structure ThereAt (w : World) (v : Value) (zs : List ThM) : Prop where
  rd : RdS w [] 9 v zs.length (flatG encTh zs)
  ty : TyS w 92 v
  parts : ∀ z ∈ zs, PartAt w [] z.m

/-- Blocks of some types stand. -/
structure TKeep (E : TypeId → Prop) (w w' : World) : Prop where
  size : w.heap.size ≤ w'.heap.size
  block : ∀ k t cs, E t → Blk w k t cs → Blk w' k t cs
section
variable {E : TypeId → Prop} {w w' w'' : World} {S : List Nat} {e : TypeId} {size n : Nat} {v : Value} {xs : List Value}
theorem TKeep.refl (w : World) : TKeep E w w := ⟨Nat.le_refl _, fun _ _ _ _ h => h⟩
theorem TKeep.trans (h : TKeep E w w') (k : TKeep E w' w'') : TKeep E w w'' := ⟨Nat.le_trans h.size k.size, fun b t cs ht hB => k.block b t cs ht (h.block b t cs ht hB)⟩
theorem TKeep.of_below (h : Below w.heap.size w w') : TKeep E w w' := ⟨h.size, fun _ _ _ _ hB => hB.below h hB.lt⟩
theorem TKeep.of_chg (hc : Chg S w w') (hS : ∀ k ∈ S, ∃ t cs, Blk w k t cs ∧ ¬ E t) : TKeep E w w' := ⟨hc.size, fun k t cs ht hB => hB.chg hc fun hm => by
  obtain ⟨t', cs', hB', hn⟩ := hS k hm
  exact hn ((hB.inj hB').1 ▸ ht)⟩
theorem TKeep.others {b : Nat} {T u : TypeId} {cs : Array Value} (h : Lib.OthersKept u (some b) w w') (hb : Blk w b T cs) (hz : w.heap.size ≤ w'.heap.size) (hu : ¬ E u) (hT : ¬ E T) : TKeep E w w' := ⟨hz, fun k t cs' ht hB => by
  have h1 := h k _ hB (by
    intro e
    cases e
    exact hT ((hB.inj hb).1 ▸ ht)) (by
    intro c fz e
    cases e
    exact hu ht)
  exact h1⟩
theorem RdS.tkeep (hr : RdS w [] size v n xs) (ht : TyS w e v) (hk : TKeep E w w') (he : E e) : RdS w' [] size v n xs ∧ TyS w' e v := by
  refine ⟨⟨hr.1, ?_⟩, ?_⟩
  · rcases hr.2 with h0 | ⟨a, cap, hv, h1, h2, h3⟩
    · exact .inl h0
    · refine .inr ⟨a, cap, hv, h1, h2, fun hn => ?_⟩
      obtain ⟨r1, r2, r3, r4⟩ := h3 hn
      obtain ⟨cs, hB⟩ := ht a n cap hv hn
      refine ⟨r1, Nat.lt_of_lt_of_le r2 hk.size, r3, fun j hj => ?_⟩
      rw [← r4 j hj, hB.cell, (hk.block _ _ _ he hB).cell]
  · intro a m c hv hm
    obtain ⟨cs, hB⟩ := ht a m c hv hm
    exact ⟨cs, hk.block _ _ _ he hB⟩
theorem PartAt.tkeep {m : MailM} (h : PartAt w [] m) (hk : TKeep E w w') (h1 : E 9) (h2 : E 138) : PartAt w' [] m := by
  obtain ⟨k1, k2⟩ := h.keys.tkeep h.tk hk h1
  obtain ⟨k3, k4⟩ := h.mem.tkeep h.tm hk h2
  exact ⟨k1, k3, k2, k4⟩
theorem ThereAt.tkeep {zs : List ThM} (h : ThereAt w v zs) (hk : TKeep E w w') (h1 : E 9) (h2 : E 138) (h3 : E 92) : ThereAt w' v zs := by
  obtain ⟨k1, k2⟩ := h.rd.tkeep h.ty hk h3
  exact ⟨k1, k2, fun z hz => (h.parts z hz).tkeep hk h1 h2⟩
theorem ThereAt.later {zs : List ThM} (h : ThereAt w v zs) (hb : Below w.heap.size w w') : ThereAt w' v zs := h.tkeep (TKeep.of_below (E := fun _ => True) hb) trivial trivial trivial
theorem ViewAt.tkeep {g : Nat} {q : VLies} {x : ViewP} (h : ViewAt w g q x) (hk : TKeep E w w') (hE : ∀ t, VTy t → E t) : ViewAt w' g q x := by
  refine ⟨hk.block _ _ _ (hE _ (.inl rfl)) h.blk, h.same, ?_, fun m hm => hk.block _ _ _ (hE _ (.inr (.inr rfl))) (h.told m hm), h.nodup⟩
  refine h.msgs.keep fun b hb => ?_
  rcases h.msgs.2 with ⟨h2, _⟩ | ⟨b', off, cap, cur, h2, _, h3, _⟩
  · rw [hb] at h2
    cases h2
  · rw [hb] at h2
    obtain rfl := Option.some.inj h2
    exact (hk.block _ _ _ (hE _ (.inr (.inl rfl))) h3).trans h3.symm
end

end Go.Proofs.YtgkfknbhkonfdaaGreatDoor

namespace Go.Proofs.YtgkfknbhkonfdaaGreatDoor
open Go.Shelf Go.RowKit Go.Lib Go.Sort
attribute [local go_sem ↓] Go.wp_at_zero Go.wp_at_succ

set_option maxRecDepth 100000 in
set_option maxHeartbeats 1000000 in
theorem thCmp_any (x y : ThM) (W : World) : Calls Tryz.prog 97 #[.agg (encTh x).toArray, .agg (encTh y).toArray] W fun e w' => e = .returned (.int .i64 (cfG ThM.u x y)) ∧ ∃ q os', w' = grow (W.drewN q) os' := by
  obtain ⟨x1, xp, xa, xc, xb, xd⟩ := x
  obtain ⟨y1, yp, ya, yc, yb, yd⟩ := y
  unfold cfG
  simp only
  obtain ⟨r1, hr1⟩ : ∃ r, Lib.compareInt x1 y1 = r := ⟨_, rfl⟩
  have hc1 := fun W => cmpG_any x1 y1 W
  rw [hr1] at hc1 ⊢
  clear hr1
  simp only [encTh, encM, ThM.m, strV]
  go_enter Tryz.func97, Tryz.ntmps97
  go_wp2_with (first
    | (go_at_call 98; with_reducible refine (hc1 _).mono ?_; rintro e w3 ⟨rfl, rfl⟩)
    | fail)
  go_ret
  exact ⟨rfl, 0, _, by rw [alloc_eq_grow, alloc_eq_grow, grow_grow]; rfl⟩

theorem thCmp_lays (blk off size : Nat) (w : World) : CmpLays Tryz.prog 97 #[] encTh 9 (cfG ThM.u) blk off size w :=
  fun _ _ _ _ x y => thCmp_any x y _

shelf_lay_g SlLaysF0.n6 Slsf 6 at Tryz 96 as Tryz.sortTh

set_option maxHeartbeats 400000 in
/-- SortFunc over them: the one rising list. -/
theorem sortTh_any (w : World) (A : Addr) (cap : Nat) (h : Option Nat) (l : List ThM) (hs : Sl w 92 9 (.slice (some A) l.length cap) h l.length (flatG encTh l)) (m : List (Int × MailP)) (hp : m.Perm (l.map ThM.z)) (hm : (m.map (·.1)).Pairwise (· < ·)) (hn : l.length ≤ 1099511627776) :
    Calls Tryz.prog 96 #[.slice (some A) l.length cap, .func (.func 97) #[] #[]] w fun e w' => e = .returned (.tuple #[]) ∧ ∃ l' : List ThM, l'.Perm l ∧ l'.map ThM.z = m ∧ Sl w' 92 9 (.slice (some A) l.length cap) h l.length (flatG encTh l') ∧ Chg h.toList w w' := by
  rcases hs.2 with ⟨_, hv, _⟩ | ⟨b, off, cap', cur, rfl, hv, hB, hnc, hcm, hcs, ht⟩
  · cases hv
  · injection hv with hv1 _ hv3
    injection hv1 with hv1
    subst hv1 hv3
    have hs' := hs
    rw [← flatK_flatG encTh 9 (by omega) encTh_length l] at hs'
    have eg : ∀ args w, (callFunc 97 args).run Tryz.prog w = .ok (.enter 97 args) w := enters_of Tryz.func97 (by kernel_rfl) rfl
    have hc := AnyQ.slices_SortFunc Tryz.sortTh 9 Tryz.isAgg92 Tryz.sizeOf92 encTh encTh_length encTh_one (cfG ThM.u) (swoG _) 97 #[] b off cap l.toArray w eg (thCmp_lays b off _ w) hs'.holdsG hB.lt (by simp; omega)
    have hsz : l.toArray.size = l.length := by simp
    rw [hsz] at hc
    refine hc.mono ?_
    rintro e w' ⟨rfl, d', q, os, hP, hS, rfl⟩
    have hpl : d'.toList.Perm l := by
      obtain ⟨hz, _, hperm⟩ := hP
      have e1 : d'.extract 0 l.length = d' := by rw [← hsz, ← hz]; exact Array.extract_size
      rw [e1, ← hsz, Array.extract_size] at hperm
      exact hperm
    have hsort : d'.toList.Pairwise fun a b => a.u ≤ b.u := by
      rw [List.pairwise_iff_getElem]
      intro i j hi hj hij
      have hi' : i < d'.size := by simpa using hi
      have hj' : j < d'.size := by simpa using hj
      have hz := hP.1
      have := hS i j (Nat.zero_le _) hij (by omega)
      rw [getElem!_pos d' j hj', getElem!_pos d' i hi', ltG] at this
      simp only [decide_eq_false_iff_not] at this
      simp only [Array.getElem_toList]
      omega
    have hz : d'.toList.map ThM.z = m := perm_keys_eq (fun z : Int × MailP => z.1) ((hpl.map ThM.z).trans hp.symm) (List.pairwise_map.2 (hsort.imp fun h => h)) (List.pairwise_map.1 hm)
    have hl : d'.toList.length = l.length := hpl.length_eq
    refine ⟨rfl, d'.toList, hpl, hz, ?_, growG_chg _ _ _ _ _ _⟩
    have h2 := hs.putRowG q (flatK encTh 9 d'.toList.toArray) (by simp [← hl]) os
    rw [flatK_flatG encTh 9 (by omega) encTh_length] at h2
    exact h2

end Go.Proofs.YtgkfknbhkonfdaaGreatDoor

namespace Go.Proofs.YtgkfknbhkonfdaaGreatDoor
open Go.Shelf Go.RowKit Go.Lib Go.Sort
attribute [local go_sem ↓] Go.wp_at_zero Go.wp_at_succ

theorem Try.infoThere : (Tryz.prog.info? 92).map (fun i => (i.zero, i.size, i.bytes)) = some (some (.agg #[.int .i64 0, .int .i64 0, .int .i64 0, .string ⟨#[]⟩, .int .i64 0, .slice none 0 0, .slice none 0 0, .int .i64 0, .int .i64 0]), 9, 112) := by kernel_rfl

/-- One email's numbers in a mailbox, of its first j members. -/
def inbox (box : Int) (m : MailP) (j : Nat) : List (Int × MailP) := ((m.members.take j).filter fun p => decide (p.1 = box)).map fun p => (p.2, m)
theorem inbox_zero (box : Int) (m : MailP) : inbox box m 0 = [] := rfl
theorem inbox_all (box : Int) (m : MailP) (j : Nat) (h : j = m.members.length) : inbox box m j = (m.members.filter fun p => decide (p.1 = box)).map fun p => (p.2, m) := by
  subst h
  unfold inbox
  rw [List.take_length]
theorem inbox_yes {box : Int} {m : MailP} {j : Nat} {p : Int × Int} (h : m.members[j]? = some p) (hb : p.1 = box) : inbox box m (j + 1) = inbox box m j ++ [(p.2, m)] := by
  obtain ⟨hj, he⟩ := List.getElem?_eq_some_iff.1 h
  unfold inbox
  rw [List.take_succ_eq_append_getElem hj, he, List.filter_append, List.map_append, List.filter_cons_of_pos (by simpa using hb)]
  rfl
theorem inbox_no {box : Int} {m : MailP} {j : Nat} {p : Int × Int} (h : m.members[j]? = some p) (hb : p.1 ≠ box) : inbox box m (j + 1) = inbox box m j := by
  obtain ⟨hj, he⟩ := List.getElem?_eq_some_iff.1 h
  unfold inbox
  rw [List.take_succ_eq_append_getElem hj, he, List.filter_append, List.map_append, List.filter_cons_of_neg (by simpa using hb)]
  simp
theorem thereL_succ (ms : List MailP) (box : Int) (k : Nat) (m : MailP) (h : ms[k]? = some m) : thereL (ms.take (k + 1)) box = thereL (ms.take k) box ++ inbox box m m.members.length := by
  obtain ⟨hk, he⟩ := List.getElem?_eq_some_iff.1 h
  unfold thereL
  rw [List.take_succ_eq_append_getElem hk, he, List.flatMap_append, inbox_all box m _ rfl]
  simp

theorem thereL_pre (ms : List MailP) (box : Int) (k : Nat) (m : MailP) (j : Nat) (h : ms[k]? = some m) : (thereL (ms.take k) box ++ inbox box m j).length ≤ (thereL ms box).length := by
  have h1 := thereL_succ ms box k m h
  have h2 : thereL ms box = thereL (ms.take (k + 1)) box ++ thereL (ms.drop (k + 1)) box := by
    unfold thereL
    rw [← List.flatMap_append, List.take_append_drop]
  have h3 : (inbox box m j).length ≤ (inbox box m m.members.length).length := by
    unfold inbox
    rw [List.length_map, List.length_map, List.take_length]
    exact ((List.take_sublist j m.members).filter _).length_le
  rw [h2, h1]
  simp only [List.length_append]
  omega

/-- The list so far. -/
structure WSt (w wr : World) (o : Value) (done : List (Int × MailP)) (n : Nat) : Prop where
  below : Below w.heap.size w wr
  out : ∃ (h : Option Nat) (zs : List ThM), n = zs.length ∧ Sl wr 92 9 o h zs.length (flatG encTh zs) ∧ zs.map ThM.z = done ∧ (∀ b, h = some b → w.heap.size ≤ b) ∧ ∀ z ∈ zs, PartAt wr [] z.m
theorem WSt.later {w wr W : World} {o : Value} {done : List (Int × MailP)} {n : Nat} (h : WSt w wr o done n) (hb : Below wr.heap.size wr W) : WSt w W o done n := by
  obtain ⟨h0, zs, hn, hs, hz, hf, hp⟩ := h.out
  exact ⟨below_then h.below hb, h0, zs, hn, hs.keep (fun b hb2 => hb.block b (hs.lt b hb2)), hz, hf, fun z hz2 => (hp z hz2).tkeep (TKeep.of_below (E := fun _ => True) hb) trivial trivial⟩
theorem WSt.push {w wr W2 : World} {o o2 : Value} {done : List (Int × MailP)} {n : Nat} {h1 h2 : Option Nat} {zs : List ThM} (z : ThM) (hB : Below w.heap.size w wr) (hn : n = zs.length) (hz : zs.map ThM.z = done) (hf : ∀ b, h1 = some b → w.heap.size ≤ b) (hp : ∀ z ∈ zs, PartAt wr [] z.m) (hpz : PartAt wr [] z.m)
    (hs1 : Sl wr 92 9 o h1 zs.length (flatG encTh zs)) (hs2 : Sl W2 92 9 o2 h2 (zs.length + 1) (flatG encTh zs ++ encTh z)) (hc : Chg h1.toList wr W2) (ho : h2 = h1 ∨ ∃ g, h2 = some g ∧ wr.heap.size ≤ g) : WSt w W2 o2 (done ++ [z.z]) (n + 1) := by
  have hk : TKeep (fun t => t ≠ 92) wr W2 := TKeep.of_chg hc (fun k hk => by
    have hk1 : h1 = some k := by simpa using hk
    rcases hs1.2 with ⟨h3, _⟩ | ⟨b, off, cap, cur, h3, _, hB3, _⟩
    · rw [hk1] at h3
      cases h3
    · rw [hk1] at h3
      obtain rfl := Option.some.inj h3
      exact ⟨_, _, hB3, fun h => h rfl⟩)
  refine ⟨hB.trans (hc.below hB.size (fun k hk => hf k (by simpa using hk))), h2, zs ++ [z], by rw [List.length_append, hn]; rfl, ?_, by rw [List.map_append, hz]; rfl, fun b hb => ?_, fun y hy => ?_⟩
  · rw [flatG_snoc, List.length_append]
    exact hs2
  · rcases ho with h3 | ⟨g2, h3, h4⟩
    · exact hf b (by rw [← h3]; exact hb)
    · rw [h3] at hb
      injection hb with hb
      have := hB.size
      omega
  · have hy2 : PartAt wr [] y.m := by
      rcases List.mem_append.1 hy with h5 | h5
      · exact hp y h5
      · rw [List.mem_singleton] at h5
        rw [h5]
        exact hpz
    exact hy2.tkeep hk (by decide) (by decide)

/-- What the walk knows of the emails told. -/
structure MsSt (w : World) (v : Value) (ms : List MailM) (l : List MailP) : Prop where
  same : ms.map (·.p) = l
  rd : RdS w [] 8 v ms.length (flatG encM ms)
  parts : ∀ m ∈ ms, PartAt w [] m

theorem MsSt.later {w w' : World} {v : Value} {ms : List MailM} {l : List MailP} (h : MsSt w v ms l) (hb : Below w.heap.size w w') : MsSt w' v ms l :=
  ⟨h.same, h.rd.below hb, fun m hm => (h.parts m hm).tkeep (TKeep.of_below (E := fun _ => True) hb) trivial trivial⟩

set_option maxRecDepth 100000 in
set_option maxHeartbeats 4000000 in
theorem withinV_any (w : World) (g : Nat) (q : Lies) (x : Acc) (h : StoreAt w g q x) (hn : SmallM x) (box : Int) (zs : List (Int × MailP)) (hp : zs.Perm (thereL x.mails box)) (hr : (zs.map (·.1)).Pairwise (· < ·)) (hz : zs.length ≤ 1099511627776) :
    Calls Tryz.prog 41 #[.pointer (some ⟨g, 0, none⟩), .int .i64 box] w fun e w' => ∃ (v : Value) (l : List ThM), e = .returned v ∧ l.map ThM.z = zs ∧ ThereAt w' v l ∧ Below w.heap.size w w' := by
  obtain ⟨i0, hi, hz0, hz1, hz2⟩ := info_parts Try.infoThere
  have hM := mails_anyS w g q x h hn [] (by simp)
  obtain ⟨n, hnn⟩ : ∃ n, x.mails.length = n := ⟨_, rfl⟩
  rw [hnn] at hM
  have hn0 := hn.1
  rw [hnn] at hn0
  have hsm := hn.2
  have HP := Lib.hid hp
  have HR := Lib.hid hr
  have HZ := Lib.hid hz
  have HSM := Lib.hid hsm
  have HNN := Lib.hid hnn
  clear h hn hp hr hz hsm hnn
  go_enter Tryz.func41, Tryz.ntmps41
  go_wp2_with (first
    | (go_at_call 59; refine hM.mono ?_; rintro e w1 ⟨A1, c1, rfl, ⟨ms, hms, hrd, hpt⟩, hb1⟩; have HMS : Hid (MsSt w1 (.slice A1 n c1) ms x.mails) := Lib.hid ⟨hms, hrd, hpt⟩; have HB1 := Lib.hid hb1; clear hM hms hrd hpt hb1)
    | fail)
  have hml : ms.length = n := by rw [← HNN.out, ← HMS.out.same, List.length_map]
  have hW0 : Hid (WSt w1 w1 (.slice none 0 0) (thereL (x.mails.take 0) box) 0) := Lib.hid ⟨Below.refl _ _, none, [], rfl, Sl.nil _ _ _, by simp [thereL], fun b hb => (by cases hb), fun z hz => (by cases hz)⟩
  go_loopw [5, 13] (fun o i wr => ∃ k m : Nat, k ≤ n ∧ i = .int .i64 k ∧ Hid (WSt w1 wr o (thereL (x.mails.take k) box) m)) (fun _ i _ => n - (intOf i).toNat)
  case atStart => exact ⟨0, 0, Nat.zero_le _, rfl, hW0⟩
  case round =>
    clear hW0
    obtain ⟨k, m, hk, rfl, HU⟩ := hrel
    have HMR := Lib.hid (HMS.out.later HU.out.below)
    by_cases hlt : k < n
    · have hltz : (k : Int) < (n : Int) := by omega
      have hk0 : (0 : Int) ≤ (k : Int) := by omega
      have hkw : IntKind.i64.wrap ((k : Int) + 1) = (k : Int) + 1 := IntWalk.i64_in _ (by omega)
      have hkm : k < ms.length := by omega
      obtain ⟨m0, hm0⟩ : ∃ m0, ms[k] = m0 := ⟨_, rfl⟩
      obtain ⟨b, off, cap, hv, _, _, hbl, _, hat⟩ := HMR.out.rd.at_ (by omega)
      rw [hml] at hv hat
      injection hv with hv3 _ hv4
      subst hv3 hv4
      have hat2 : ∀ j, j < 8 → wr.cell? ⟨b, off + k * 8 + j, none⟩ = (encM m0)[j]? := fun j hj => by
        rw [Nat.add_assoc, hat _ (by omega), flatG_get encM_length ms k j hkm hj, hm0]
      have hp0 := HMR.out.parts m0 (by rw [← hm0]; exact List.getElem_mem hkm)
      have hxm : x.mails[k]? = some m0.p := by
        rw [← HMS.out.same, List.getElem?_map, List.getElem?_eq_getElem hkm, hm0]
        rfl
      have hsm := HSM.out m0.p (List.mem_of_getElem? hxm)
      have hsucc := thereL_succ x.mails box k m0.p hxm
      obtain ⟨Ak, ck, hkv, _, _⟩ := hp0.keys.form
      obtain ⟨Av, cv, hmv, _, _⟩ := hp0.mem.form
      obtain ⟨nm, hnm⟩ : ∃ nm, m0.p.members.length = nm := ⟨_, rfl⟩
      have e0 : wr.cell? ⟨b, off + k * 8, none⟩ = some (.int .i64 m0.p.id) := hat2 0 (by omega)
      have e1 : wr.cell? ⟨b, off + k * 8 + 1, none⟩ = some (.int .i64 m0.p.thread) := hat2 1 (by omega)
      have e2 : wr.cell? ⟨b, off + k * 8 + 2, none⟩ = some (.string ⟨m0.p.text.toArray⟩) := hat2 2 (by omega)
      have e3 : wr.cell? ⟨b, off + k * 8 + 3, none⟩ = some (.int .i64 m0.p.at_) := hat2 3 (by omega)
      have e4 : wr.cell? ⟨b, off + k * 8 + 4, none⟩ = some (.slice Ak m0.p.keys.length ck) := by rw [← hkv]; exact hat2 4 (by omega)
      have e5 : wr.cell? ⟨b, off + k * 8 + 5, none⟩ = some (.slice Av nm cv) := by rw [← hnm, ← hmv]; exact hat2 5 (by omega)
      have e6 : wr.cell? ⟨b, off + k * 8 + 6, none⟩ = some (.int .i64 m0.p.mod) := hat2 6 (by omega)
      have e7 : wr.cell? ⟨b, off + k * 8 + 7, none⟩ = some (.int .i64 m0.p.born) := hat2 7 (by omega)
      have hnmb : nm ≤ 1099511627776 := by rw [← hnm]; exact hsm.2
      have HB0 := Lib.hid (Blk.new wr 90 #[.int .i64 m0.p.id, .int .i64 m0.p.thread, .string ⟨m0.p.text.toArray⟩, .int .i64 m0.p.at_, .slice Ak m0.p.keys.length ck, .slice Av nm cv, .int .i64 m0.p.mod, .int .i64 m0.p.born])
      have HU0 := Lib.hid (HU.out.later (below_alloc1 wr (.cells #[.int .i64 m0.p.id, .int .i64 m0.p.thread, .string ⟨m0.p.text.toArray⟩, .int .i64 m0.p.at_, .slice Ak m0.p.keys.length ck, .slice Av nm cv, .int .i64 m0.p.mod, .int .i64 m0.p.born] 90)))
      have HMEM : Hid (m0 ∈ ms) := Lib.hid (by rw [← hm0]; exact List.getElem_mem hkm)
      have hpre := fun j => thereL_pre x.mails box k m0.p j hxm
      have HPRE := Lib.hid hpre
      have HKV := Lib.hid hkv
      have HMV := Lib.hid hmv
      have HNM := Lib.hid hnm
      have HSUCC := Lib.hid hsucc
      obtain ⟨B, hBe⟩ : ∃ B, wr.heap.size = B := ⟨_, rfl⟩
      clear hat hat2 hp0 hxm hsm hpre hsucc hkv hmv hnm hm0 HU HMR hkm
      go_upto_block 2 with (fail)
      rw [hBe] at HB0
      obtain ⟨wo, hwo⟩ : ∃ wo : World, wo = wr.alloc (.cells #[.int .i64 m0.p.id, .int .i64 m0.p.thread, .string ⟨m0.p.text.toArray⟩, .int .i64 m0.p.at_, .slice Ak m0.p.keys.length ck, .slice Av nm cv, .int .i64 m0.p.mod, .int .i64 m0.p.born] 90) := ⟨_, rfl⟩
      rw [← hwo] at HB0 HU0
      try rw [← hwo]
      try rw [hBe]
      clear e0 e1 e2 e3 e4 e5 e6 e7 hwo hBe
      have HI0 : Hid (WSt w1 wo u5 (thereL (x.mails.take k) box ++ inbox box m0.p 0) m) := Lib.hid (by rw [inbox_zero, List.append_nil]; exact HU0.out)
      clear HU0
      go_wp2_with fail
      go_loopw [5, 20] (fun o i wr => ∃ j m2 : Nat, j ≤ nm ∧ i = .int .i64 j ∧ Hid (WSt w1 wr o (thereL (x.mails.take k) box ++ inbox box m0.p j) m2) ∧ Hid (Blk wr B 90 #[.int .i64 m0.p.id, .int .i64 m0.p.thread, .string ⟨m0.p.text.toArray⟩, .int .i64 m0.p.at_, .slice Ak m0.p.keys.length ck, .slice Av nm cv, .int .i64 m0.p.mod, .int .i64 m0.p.born])) (fun _ i _ => nm - (intOf i).toNat)
      case atStart => exact ⟨0, m, Nat.zero_le _, rfl, HI0, HB0⟩
      case round =>
        clear HI0 HB0
        obtain ⟨j, m2, hj, rfl, HU, HB⟩ := hrel
        have HM := Lib.hid (HMS.out.later HU.out.below)
        by_cases hltj : j < nm
        · have hltjz : (j : Int) < (nm : Int) := by omega
          have hj0 : (0 : Int) ≤ (j : Int) := by omega
          have hjw : IntKind.i64.wrap ((j : Int) + 1) = (j : Int) + 1 := IntWalk.i64_in _ (by omega)
          have hp0 := HM.out.parts m0 HMEM.out
          have hjm : j < m0.p.members.length := by rw [HNM.out]; exact hltj
          obtain ⟨p, hp⟩ : ∃ p, m0.p.members[j] = p := ⟨_, rfl⟩
          obtain ⟨b2, off2, cap2, hv2, _, _, hbl2, _, hat2⟩ := hp0.mem.at_ (by omega)
          rw [HMV.out, HNM.out] at hv2
          injection hv2 with hv5 _ hv6
          subst hv5 hv6
          have d0 : wr.cell? ⟨b2, off2 + j * 2, none⟩ = some (.int .i64 p.1) := by
            rw [← Nat.add_zero (off2 + j * 2), Nat.add_assoc, hat2 _ (by omega), flatG_get encMem_length _ j 0 hjm (by omega), hp]
            rfl
          have d1 : wr.cell? ⟨b2, off2 + j * 2 + 1, none⟩ = some (.int .i64 p.2) := by
            rw [Nat.add_assoc, hat2 _ (by omega), flatG_get encMem_length _ j 1 hjm (by omega), hp]
            rfl
          have hpj : m0.p.members[j]? = some p := by rw [List.getElem?_eq_getElem hjm, hp]
          have hBl := HB.out.lt
          by_cases hc : p.1 = box
          · have f1 : (p.1 == box) = true := by simpa using hc
            have hin := inbox_yes (m := m0.p) hpj hc
            obtain ⟨hU1, h0, zl, hzn, hs0, hzl, hf0, hpp0⟩ := HU.out
            obtain ⟨A0, c0, rfl, _, _⟩ := hs0.form
            have hzb : zl.length ≤ 1099511627776 := by
              have h1 := congrArg List.length hzl
              rw [List.length_map] at h1
              have h2 := HPRE.out j
              have h3 := HP.out.length_eq
              have h4 := HZ.out
              omega
            have hU1' := below_then hU1 (below_alloc1 wr (.cells #[.int .i64 p.1, .int .i64 p.2] 138))
            have HM2 := Lib.hid (HM.out.later (below_alloc1 wr (.cells #[.int .i64 p.1, .int .i64 p.2] 138)))
            have HB2 := Lib.hid (HB.out.alloc (.cells #[.int .i64 p.1, .int .i64 p.2] 138))
            have b0 := HB2.out.cell 0
            have b1 := HB2.out.cell 1
            have b2' := HB2.out.cell 2
            have b3 := HB2.out.cell 3
            have b4 := HB2.out.cell 4
            have b5 := HB2.out.cell 5
            have b6 := HB2.out.cell 6
            have b7 := HB2.out.cell 7
            have HS0 := Lib.hid (hs0.alloc (.cells #[.int .i64 p.1, .int .i64 p.2] 138))
            have HPUSH : Hid (∀ W2 (o2 : Value) (h2 : Option Nat), Sl W2 92 9 o2 h2 (zl.length + 1) (flatG encTh zl ++ encTh ⟨p.2, m0.p, Ak, ck, some ⟨b2, off2, none⟩, cv⟩) → Chg h0.toList (wr.alloc (.cells #[.int .i64 p.1, .int .i64 p.2] 138)) W2 → (h2 = h0 ∨ ∃ g, h2 = some g ∧ (wr.alloc (.cells #[.int .i64 p.1, .int .i64 p.2] 138)).heap.size ≤ g) → WSt w1 W2 o2 (thereL (x.mails.take k) box ++ inbox box m0.p (j + 1)) (m2 + 1)) := Lib.hid (fun W2 o2 h2 k1 k2 k3 => by
              have hmz : (⟨p.2, m0.p, Ak, ck, some ⟨b2, off2, none⟩, cv⟩ : ThM).m = m0 := by
                have e1 := HKV.out
                have e2 := HMV.out
                unfold ThM.m
                simp only
                rw [← e1, ← e2]
              have h9 := WSt.push (⟨p.2, m0.p, Ak, ck, some ⟨b2, off2, none⟩, cv⟩ : ThM) hU1' hzn hzl hf0 (fun z hz => (hpp0 z hz).tkeep (TKeep.of_below (E := fun _ => True) (below_alloc1 _ _)) trivial trivial) (by rw [hmz]; exact HM2.out.parts m0 HMEM.out) HS0.out k1 k2 k3
              rw [hin, ← List.append_assoc]
              exact h9)
            clear hat2 hp0 hpj hc hp hU1 hzn hs0 hzl hf0 hpp0 hin hU1' HU HM HB
            go_wp2_with (first
              | (at_builtin; refine wpList_append_slX rfl _ _ 86 rfl Tryz.underlying86 hi hz0 hz1 hz2 rfl (by decide) HS0.out rfl (wr.heap.size + 1) (by simp) 1 1 rfl rfl ?_ ?_ ?_ ?_)
              | fail)
            · simp [Value.oneCell']
            · unfold maxLen
              omega
            · omega
            · intro v5 h5 w5 hs5 hc5 ho5
              have HN2 := Lib.hid (HPUSH.out w5 v5 h5 (by have h7 := hs5; rw [← HNM.out] at h7; exact h7) hc5 (by rw [World.size_alloc]; exact ho5))
              have hbw : TKeep (fun t => t ≠ 92) (wr.alloc (.cells #[.int .i64 p.1, .int .i64 p.2] 138)) w5 := TKeep.of_chg hc5 (fun k hk => by
                have hk1 : h0 = some k := by simpa using hk
                rcases HS0.out.2 with ⟨h3, _⟩ | ⟨b, off, cap, cur, h3, _, hB3, _⟩
                · rw [hk1] at h3
                  cases h3
                · rw [hk1] at h3
                  obtain rfl := Option.some.inj h3
                  exact ⟨_, _, hB3, fun h => h rfl⟩)
              have HB5 := Lib.hid (hbw.block _ _ _ (by decide) HB2.out)
              clear hs5 hc5 ho5 hbw
              go_wp2_with fail
              refine ⟨?_, by simp [intOf]; omega⟩
              first | exact ⟨j + 1, m2 + 1, by omega, by go_num, HN2, HB5⟩ | ((repeat apply Exists.intro); exact ⟨⟨j + 1, m2 + 1, by omega, by go_num, HN2, HB5⟩, rfl⟩)
          · have f1 : (p.1 == box) = false := by simpa using hc
            have HN2 : Hid (WSt w1 (wr.alloc (.cells #[.int .i64 p.1, .int .i64 p.2] 138)) u5 (thereL (x.mails.take k) box ++ inbox box m0.p (j + 1)) m2) := Lib.hid (by rw [inbox_no hpj hc]; exact HU.out.later (below_alloc1 _ _))
            have HB2 := Lib.hid (HB.out.alloc (.cells #[.int .i64 p.1, .int .i64 p.2] 138))
            clear hat2 HM hp0 hpj hc hp
            go_wp2_with fail
            refine ⟨?_, by simp [intOf]; omega⟩
            first | exact ⟨j + 1, m2, by omega, by go_num, HN2, HB2⟩ | ((repeat apply Exists.intro); exact ⟨⟨j + 1, m2, by omega, by go_num, HN2, HB2⟩, rfl⟩)
        · have hjn : j = nm := by omega
          subst hjn
          have hltjz : ¬ (j : Int) < (j : Int) := by omega
          have HN2 : Hid (WSt w1 wr u5 (thereL (x.mails.take (k + 1)) box) m2) := Lib.hid (by rw [HSUCC.out, HNM.out]; exact HU.out)
          go_wp2_with fail
          refine ⟨?_, by simp [intOf]; omega⟩
          first | exact ⟨k + 1, m2, by omega, by go_num, HN2⟩ | ((repeat apply Exists.intro); exact ⟨⟨k + 1, m2, by omega, by go_num, HN2⟩, rfl⟩)
    · have hkn : k = n := by omega
      subst hkn
      have hltz : ¬ (k : Int) < (k : Int) := by omega
      obtain ⟨hb1, h0, l, hl, hs, hlz, hf, hpp⟩ := HU.out
      rw [List.take_of_length_le (by rw [HNN.out]; exact Nat.le_refl _)] at hlz
      have hll : l.length = zs.length := by
        have h1 := congrArg List.length hlz
        rw [List.length_map] at h1
        rw [h1]
        exact HP.out.length_eq.symm
      have hlb : l.length ≤ 1099511627776 := by rw [hll]; exact HZ.out
      have hpl : zs.Perm (l.map ThM.z) := by rw [hlz]; exact HP.out
      obtain ⟨A, c, rfl, _, _⟩ := hs.form
      have hfin : ∀ (l' : List ThM) (w9 : World), l'.Perm l → Sl w9 92 9 (.slice A l.length c) h0 l.length (flatG encTh l') → Chg h0.toList wr w9 → ThereAt w9 (.slice A l.length c) l' ∧ Below w.heap.size w w9 := fun l' w9 k1 k2 k3 => by
        have hlen := k1.length_eq
        have hk : TKeep (fun t => t ≠ 92) wr w9 := TKeep.of_chg k3 (fun k hk => by
          have hk1 : h0 = some k := by simpa using hk
          rcases hs.2 with ⟨h3, _⟩ | ⟨b, off, cap, cur, h3, _, hB3, _⟩
          · rw [hk1] at h3
            cases h3
          · rw [hk1] at h3
            obtain rfl := Option.some.inj h3
            exact ⟨_, _, hB3, fun h => h rfl⟩)
        refine ⟨⟨?_, k2.ty, fun z hz => (hpp z (k1.mem_iff.1 hz)).tkeep hk (by decide) (by decide)⟩, below_then HB1.out (hb1.trans (k3.below hb1.size (fun k hk => hf k (by simpa using hk))))⟩
        rw [hlen]
        exact k2.reads [] (by simp)
      have hsort : ∀ fv, fv = Value.func (.func 97) #[] #[] → Calls Tryz.prog 96 #[.slice A l.length c, fv] wr fun e w9 => e = .returned (.tuple #[]) ∧ ∃ l' : List ThM, l'.map ThM.z = zs ∧ ThereAt w9 (.slice A l.length c) l' ∧ Below w.heap.size w w9 := fun fv hfv => by
        subst hfv
        cases A with
        | some a =>
          refine (sortTh_any wr a c h0 l hs zs hpl HR.out hlb).mono ?_
          rintro e w9 ⟨rfl, l', k1, k2, k3, k4⟩
          exact ⟨rfl, l', k2, hfin l' w9 k1 k3 k4⟩
        | none =>
          have hl0 : l.length = 0 := by
            rcases hs.2 with ⟨_, _, h3⟩ | ⟨b, off, cap, cur, _, h3, _⟩
            · exact h3
            · cases h3
          have hlz0 : l = [] := List.eq_nil_of_length_eq_zero hl0
          subst hlz0
          refine (AnyF.slices_SortFunc_none { Tryz.sortTh with } none c _ wr).mono ?_
          rintro e w9 ⟨rfl, hw9⟩
          rw [hw9]
          refine ⟨rfl, [], ?_, hfin [] wr (List.Perm.refl _) hs (Chg.refl _ _)⟩
          exact (List.length_eq_zero_iff.1 (by rw [← hll]; rfl)).symm
      have hso := hsort _ rfl
      clear hsort hfin hpl hlb hll hpp hf hlz hs hl hb1 HU
      go_wp2_with (first
        | (go_at_call 96; refine hso.mono ?_; rintro e w9 ⟨rfl, l', k1, k2, k3⟩; have K2 := Lib.hid k2; have K1 := Lib.hid k1; have K3 := Lib.hid k3; clear hso k1 k2 k3)
        | fail)
      go_ret
      exact ⟨_, l', rfl, K1.out, K2.out, K3.out⟩

end Go.Proofs.YtgkfknbhkonfdaaGreatDoor
