/-
  The plain model of a view: what the program's view does, as functions of data alone. No program in sight.
  The view statements' accounts in plain words: one mailbox, emails that come and go.
  The view statements in plain words: what a new view has, what its updates tell.
  ViewNew and ViewGone in plain words: k emails, of which some go.
-/
import Derived.Test.YtgkfknbhkonfdaaGreatDoorGC
import Derived.Lib.ItoaLen
namespace Go.Proofs.YtgkfknbhkonfdaaGreatDoor

/-- The digits of a number; of one below nought those of nought. -/
def digL (n : Int) : Text := Lib.decDigits n.toNat
/-- A message of a view: number, email, the Mod that was told. -/
structure Msg where
  uid : Int
  id : Int
  told : Int
  deriving DecidableEq, Inhabited
structure ViewP where
  box : Int
  l : List Msg
  had : Int
/-- The emails of a mailbox with their numbers there, in the emails' order. -/
def thereL (ms : List MailP) (box : Int) : List (Int × MailP) := ms.flatMap fun m => (m.members.filter fun p => decide (p.1 = box)).map fun p => (p.2, m)
def addV (v : ViewP) (z : Int × MailP) : ViewP := ⟨v.box, v.l ++ [⟨z.1, z.2.id, z.2.mod⟩], max v.had z.1⟩
def newV (box : Int) (zs : List (Int × MailP)) : ViewP := zs.foldl addV ⟨box, [], 0⟩
def isZ (m : Msg) (z : Int × MailP) : Bool := decide (z.1 = m.uid) && decide (z.2.id = m.id)
def findV (zs : List (Int × MailP)) (m : Msg) : Option (Int × MailP) := zs.find? (isZ m)
/-- What is told of one message. -/
def tellM (zs : List (Int × MailP)) (m : Msg) : Msg := zs.foldl (fun (s : Msg) z => if isZ m z then { s with told := z.2.mod } else s) m
def toldV (zs : List (Int × MailP)) (v : ViewP) (at_ : Int) : ViewP :=
  if at_ < 1 ∨ (v.l.length : Int) < at_ then v else { v with l := v.l.modify (at_ - 1).toNat (tellM zs) }

def expungeT : Text := [69, 88, 80, 85, 78, 71, 69]
def existsT : Text := [69, 88, 73, 83, 84, 83]
def fetchW : Text := [70, 69, 84, 67, 72, 32, 40, 85, 73, 68]
def flagsW : Text := [70, 76, 65, 71, 83]
def modW : Text := [77, 79, 68, 83, 69, 81, 32, 40]
def sayT (at_ : Int) (words : Text) : Text := [42, 32] ++ digL at_ ++ [32] ++ words ++ [13, 10]
/-- The first round: what is gone, from the i-th place on. -/
def goneT (is : Msg → Bool) : Nat → List Msg → Text
  | _, [] => []
  | i, m :: r => if is m then goneT is (i + 1) r else sayT (i + 1) expungeT ++ goneT is i r
def isV (zs : List (Int × MailP)) (m : Msg) : Bool := (findV zs m).isSome
/-- The second: what has turned. -/
def turnM (zs : List (Int × MailP)) (m : Msg) : Msg := match findV zs m with
  | some z => if m.told < z.2.mod then { m with told := z.2.mod } else m
  | none => m
def fetchT (flags : List Text → Text) (i : Nat) (uid : Int) (z : MailP) : Text :=
  sayT (i + 1) (fetchW ++ [32] ++ digL uid ++ [32] ++ flagsW ++ [32] ++ flags z.keys ++ [32] ++ (modW ++ digL z.mod ++ [41, 41]))
def turnT (flags : List Text → Text) (zs : List (Int × MailP)) : Nat → List Msg → Text
  | _, [] => []
  | i, m :: r => (match findV zs m with
    | some z => if m.told < z.2.mod then fetchT flags i m.uid z.2 else []
    | none => []) ++ turnT flags zs (i + 1) r
/-- The third: what is new. -/
def freshV (had : Int) (zs : List (Int × MailP)) (v : ViewP) : ViewP := zs.foldl (fun v z => if had < z.1 then addV v z else v) v
def updateV (flags : List Text → Text) (zs : List (Int × MailP)) (v : ViewP) (all : Bool) : Text × ViewP :=
  let l1 := if all then v.l.filter (isV zs) else v.l
  let t1 := if all then goneT (isV zs) 0 v.l else []
  let t2 := turnT flags zs 0 l1
  let v2 : ViewP := ⟨v.box, l1.map (turnM zs), v.had⟩
  let v3 := freshV v.had zs v2
  let t3 := if l1.length < v3.l.length then sayT v3.l.length existsT else []
  (t1 ++ t2 ++ t3, v3)

end Go.Proofs.YtgkfknbhkonfdaaGreatDoor

namespace Go.Proofs.YtgkfknbhkonfdaaGreatDoor

theorem headF_x (name : List UInt8) : headF [120] name = [] := by
  have h : (splitF [120]).1 = [] := by decide
  simp [headF, h, firstF]
/-- Email i of mailbox 1, of clock c. -/
def mailV (t : Text) (i c : Nat) : MailP := ⟨i, i, t, 0, [], [(1, (i : Int))], c, c⟩

structure ViSt (x : Acc) (k c : Nat) (ms : List MailP) : Prop where
  cfg : x.cfg = wideP
  fit : Fit x
  clock : x.clock = 1 + c
  boxes : ∃ b, x.boxes = [b] ∧ b.id = 1 ∧ b.next = 1 + k
  lastId : x.lastId = k
  octets : x.octets ≤ k
  mails : x.mails = ms
  small : ms.length ≤ k
  one : ∀ m ∈ ms, m.members = [(1, m.id)] ∧ m.keys = []

theorem viSt_new : ViSt (newP wideP) 0 0 [] := ⟨rfl, newP_fit wideP_ok, rfl, ⟨⟨1, inboxT, 0, 1, 1, 1⟩, rfl, rfl, rfl⟩, rfl, by simp [newP], rfl, Nat.le_refl _, fun m hm => by cases hm⟩

theorem keysF_nil' : keysF [] = ([], 0) := by simp [keysF, sortB, Lib.compact, Lib.compactUpTo]

theorem ViSt.app {x : Acc} {k c : Nat} {ms : List MailP} (h : ViSt x k c ms) (t : Text) (ht : t.length = 1) (hh : ∀ n, headF t n = []) (hk : k ≤ 100) (hc : c ≤ 1000) :
    ∃ x', appendP headF x [1] [] 0 t = (x', ((k + 1 : Nat) : Int), 0) ∧ ViSt x' (k + 1) (c + 1) (ms ++ [mailV t (k + 1) (c + 2)]) := by
  obtain ⟨b, hb, hb1, hb2⟩ := h.boxes
  have hsm := h.small
  have hoc := h.octets
  have hcl := h.clock
  have hth : threadP headF x t = 0 := by
    unfold threadP
    rw [hh, if_pos rfl]
  have hap := appendP_one headF x b hb hb1 [] (by rw [keysF_nil']) 0 (by decide) (by decide) t (by rw [h.cfg, h.mails]; show (ms.length : Int) < 1000; omega) (by rw [h.cfg, ht]; show x.octets + ((1 : Nat) : Int) ≤ 1048576; omega) (by rw [h.cfg]; show x.clock < 1073741824; omega) (by rw [h.cfg]; show b.next ≤ 1073741824; omega)
  have hf := appendP_fit headF h.fit [1] [] 0 t (by rw [keysF_nil']; decide)
  rw [hap] at hf
  rw [hth] at hap hf
  have hli : x.lastId + 1 = ((k + 1 : Nat) : Int) := by have := h.lastId; omega
  obtain ⟨y, hy⟩ : ∃ y, (appendP headF x [1] [] 0 t) = (y, x.lastId + 1, 0) ∧ y.cfg = x.cfg ∧ Fit y ∧ y.clock = x.clock + 1 ∧ y.boxes = [{ b with next := b.next + 1, mod := x.clock + 1 }] ∧ y.lastId = x.lastId + 1 ∧ y.octets = x.octets + t.length ∧ y.mails = x.mails ++ [⟨x.lastId + 1, if (0 : Int) = 0 then x.lastId + 1 else 0, t, 0, (keysF []).1, [(1, b.next)], x.clock + 1, x.clock + 1⟩] := ⟨_, hap, rfl, hf, rfl, rfl, rfl, rfl, rfl⟩
  obtain ⟨y0, y1, y2, y3, y4, y5, y6, y7⟩ := hy
  refine ⟨y, by rw [y0, hli], y1.trans h.cfg, y2, ?_, ⟨_, y4, hb1, ?_⟩, ?_, ?_, ?_, ?_, ?_⟩
  · rw [y3]
    omega
  · show b.next + 1 = _
    omega
  · rw [y5]
    exact hli
  · rw [y6, ht]
    omega
  · have e2 : x.clock + 1 = ((c + 2 : Nat) : Int) := by omega
    have e3 : b.next = ((k + 1 : Nat) : Int) := by omega
    rw [y7, h.mails, keysF_nil', hli, e2, e3]
    rfl
  · rw [List.length_append, List.length_singleton]
    omega
  · intro m hm
    rcases List.mem_append.1 hm with h1 | h1
    · exact h.one m h1
    · rw [List.mem_singleton.1 h1]
      exact ⟨rfl, rfl⟩

theorem erase_filter : ∀ {l : List MailP} {k : Nat} {id : Int}, (l.map (·.id)).Nodup → (hk : k < l.length) → l[k].id = id → l.eraseIdx k = l.filter fun m => !decide (m.id = id)
  | m :: r, 0, id, hn, _, h => by
    have h0 : m.id = id := h
    rw [List.map_cons, List.nodup_cons] at hn
    rw [List.eraseIdx_cons_zero, List.filter_cons_of_neg (by simp [h0])]
    refine (List.filter_eq_self.2 fun y hy => ?_).symm
    have : y.id ≠ id := fun e => hn.1 (by rw [h0, ← e]; exact List.mem_map_of_mem hy)
    simpa using this
  | m :: r, k + 1, id, hn, hk, h => by
    rw [List.map_cons, List.nodup_cons] at hn
    have hk' : k < r.length := by simpa using hk
    have h' : r[k].id = id := h
    have hm : m.id ≠ id := fun e => hn.1 (by rw [e, ← h']; exact List.mem_map_of_mem (List.getElem_mem hk'))
    rw [List.eraseIdx_cons_succ, List.filter_cons_of_pos (by simpa using hm), erase_filter hn.2 hk' h']

theorem mailOf_at : ∀ {l : List MailP} {m : MailP}, m ∈ l → ∃ k, ∃ hk : k < l.length, mailOf m.id l = (k : Int) ∧ l[k].id = m.id ∧ l.find? (fun y => decide (y.id = m.id)) = some l[k]
  | y :: r, m, hm => by
    by_cases hy : y.id = m.id
    · exact ⟨0, by simp, by simp [mailOf, place, hy], hy, by simp [hy]⟩
    · have hr : m ∈ r := by
        rcases List.mem_cons.1 hm with h1 | h1
        · exact absurd (by rw [h1]) hy
        · exact h1
      obtain ⟨k, hk, h1, h2, h3⟩ := mailOf_at hr
      have h1' : place (fun z : MailP => decide (z.id = m.id)) r = k := h1
      refine ⟨k + 1, by simpa using hk, ?_, h2, ?_⟩
      · unfold mailOf place
        rw [if_neg (by simpa using hy), h1', if_neg (by omega)]
        omega
      · rw [List.find?_cons_of_neg (by simpa using hy)]
        exact h3

theorem ViSt.gone {x : Acc} {k c : Nat} {ms : List MailP} (h : ViSt x k c ms) (hc : c ≤ 1000) {m : MailP} (hm : m ∈ ms) :
    ∃ x', destroyP x m.id = (x', 0) ∧ ViSt x' k (c + 1) (ms.filter fun y => !decide (y.id = m.id)) := by
  obtain ⟨b, hb, hb1, hb2⟩ := h.boxes
  have hsm := h.small
  have hoc := h.octets
  have hcl := h.clock
  have hnd := h.fit.idsM
  rw [h.mails] at hnd
  obtain ⟨i, hi, h1, h2, h3⟩ := mailOf_at hm
  have hend : x.ends = false := by
    unfold Acc.ends
    rw [h.cfg]
    exact decide_eq_false (show ¬ (1073741824 : Int) ≤ x.clock by omega)
  have hmem := (h.one _ (List.getElem_mem hi)).1
  have hr : rise (ms[i].members.map (·.1)) = [1] := by rw [hmem]; rfl
  have hb' : turnBoxes (x.clock + 1) [1] x.boxes = [{ b with mod := x.clock + 1 }] := by
    rw [hb]
    simp [turnBoxes, setBox, hb1]
  have hf := destroyP_fit h.fit m.id
  obtain ⟨x', hx'⟩ : ∃ x', destroyP x m.id = (x', 0) ∧ x'.cfg = x.cfg ∧ x'.clock = x.clock + 1 ∧ x'.boxes = [{ b with mod := x.clock + 1 }] ∧ x'.lastId = x.lastId ∧ x'.octets ≤ x.octets ∧ x'.mails = ms.eraseIdx i := by
    unfold destroyP
    rw [h.mails, h3]
    simp only [hend, Bool.false_eq_true, if_false, hr, hb', h1]
    refine ⟨_, rfl, rfl, rfl, rfl, rfl, ?_, ?_⟩
    · show x.octets - (ms[i].text.length : Int) ≤ x.octets
      omega
    · show ms.eraseIdx (i : Int).toNat = _
      rw [Int.toNat_natCast]
  obtain ⟨e0, e1, e2, e3, e4, e5, e6⟩ := hx'
  rw [e0] at hf
  rw [erase_filter hnd hi h2] at e6
  refine ⟨x', e0, e1.trans h.cfg, hf, by omega, ⟨_, e3, hb1, hb2⟩, e4.trans h.lastId, by omega, e6, ?_, fun y hy => h.one y (List.mem_filter.1 hy).1⟩
  exact Nat.le_trans (List.length_filter_le _ _) hsm

/-- What is there, of one mailbox. -/
theorem thereL_one : ∀ {ms : List MailP}, (∀ m ∈ ms, m.members = [(1, m.id)]) → thereL ms 1 = ms.map fun m => (m.id, m)
  | [], _ => rfl
  | m :: r, h => by
    have h1 := h m (List.mem_cons_self ..)
    have h2 := thereL_one (ms := r) fun y hy => h y (List.mem_cons_of_mem _ hy)
    unfold thereL at h2 ⊢
    rw [List.flatMap_cons, h2, h1]
    simp

end Go.Proofs.YtgkfknbhkonfdaaGreatDoor

namespace Go.Proofs.YtgkfknbhkonfdaaGreatDoor

def zsOf (ms : List MailP) : List (Int × MailP) := ms.map fun m => (m.id, m)
def msgOf (m : MailP) : Msg := ⟨m.id, m.id, m.mod⟩

theorem addAll : ∀ (zs : List (Int × MailP)) (v : ViewP) (B : Int), v.had ≤ B → (∀ z ∈ zs, z.1 ≤ B) →
    (zs.foldl addV v).box = v.box ∧ (zs.foldl addV v).l = v.l ++ zs.map (fun z => ⟨z.1, z.2.id, z.2.mod⟩) ∧ v.had ≤ (zs.foldl addV v).had ∧ (∀ z ∈ zs, z.1 ≤ (zs.foldl addV v).had) ∧ (zs.foldl addV v).had ≤ B
  | [], v, B, hB, _ => ⟨rfl, by simp, Int.le_refl _, by simp, hB⟩
  | z :: r, v, B, hB, hz => by
    have h1 : (addV v z).had ≤ B := Int.max_le.2 ⟨hB, hz z (List.mem_cons_self ..)⟩
    obtain ⟨a, b, c, d, e⟩ := addAll r (addV v z) B h1 fun y hy => hz y (List.mem_cons_of_mem _ hy)
    have c1 : v.had ≤ (addV v z).had := Int.le_max_left _ _
    have c2 : z.1 ≤ (addV v z).had := Int.le_max_right _ _
    rw [List.foldl_cons]
    refine ⟨a, ?_, Int.le_trans c1 c, fun y hy => ?_, e⟩
    · rw [b]
      simp [addV]
    · rcases List.mem_cons.1 hy with h2 | h2
      · rw [h2]
        exact Int.le_trans c2 c
      · exact d y h2
theorem new_view {ms : List MailP} {k : Int} (h0 : 0 ≤ k) (hk : ∀ m ∈ ms, m.id ≤ k) :
    (newV 1 (zsOf ms)).box = 1 ∧ (newV 1 (zsOf ms)).l = ms.map msgOf ∧ (∀ m ∈ ms, m.id ≤ (newV 1 (zsOf ms)).had) ∧ (newV 1 (zsOf ms)).had ≤ k := by
  obtain ⟨a, b, _, d, e⟩ := addAll (zsOf ms) ⟨1, [], 0⟩ k h0 fun z hz => by
    obtain ⟨m, hm, rfl⟩ := List.mem_map.1 hz
    exact hk m hm
  refine ⟨a, ?_, fun m hm => d (m.id, m) (List.mem_map.2 ⟨m, hm, rfl⟩), e⟩
  refine b.trans ?_
  simp [zsOf, msgOf]

theorem find_zs : ∀ (ms : List MailP) (m : Msg), m.uid = m.id → findV (zsOf ms) m = (ms.find? fun y => decide (y.id = m.id)).map fun y => (y.id, y)
  | [], _, _ => rfl
  | y :: r, m, h => by
    have ih := find_zs r m h
    unfold findV zsOf at ih ⊢
    rw [List.map_cons, List.find?_cons, List.find?_cons]
    have e : isZ m (y.id, y) = decide (y.id = m.id) := by
      unfold isZ
      rw [h]
      simp
    rw [e]
    cases decide (y.id = m.id) with
    | true => rfl
    | false => exact ih
theorem find_self : ∀ {ms : List MailP} {m : MailP}, (ms.map (·.id)).Nodup → m ∈ ms → ms.find? (fun y => decide (y.id = m.id)) = some m
  | y :: r, m, hn, hm => by
    rw [List.map_cons, List.nodup_cons] at hn
    rcases List.mem_cons.1 hm with h1 | h1
    · subst h1
      simp
    · have : y.id ≠ m.id := fun e => hn.1 (by rw [e]; exact List.mem_map_of_mem h1)
      rw [List.find?_cons_of_neg (by simpa using this)]
      exact find_self hn.2 h1
theorem find_not {ms : List MailP} {i : Int} (h : ∀ m ∈ ms, m.id ≠ i) : ms.find? (fun y => decide (y.id = i)) = none := by
  rw [List.find?_eq_none]
  intro m hm
  simpa using h m hm

theorem fresh_none {had : Int} : ∀ {zs : List (Int × MailP)} {v : ViewP}, (∀ z ∈ zs, z.1 ≤ had) → freshV had zs v = v
  | [], _, _ => rfl
  | z :: r, v, h => by
    have h1 := h z (List.mem_cons_self ..)
    unfold freshV
    rw [List.foldl_cons, if_neg (by omega)]
    exact fresh_none fun y hy => h y (List.mem_cons_of_mem _ hy)
theorem fresh_snoc {had : Int} {zs : List (Int × MailP)} {v : ViewP} {z : Int × MailP} (h : ∀ z ∈ zs, z.1 ≤ had) (hz : had < z.1) : freshV had (zs ++ [z]) v = addV v z := by
  have h1 := fresh_none (v := v) h
  unfold freshV at h1 ⊢
  rw [List.foldl_append, h1, List.foldl_cons, List.foldl_nil, if_pos hz]

/-- Of such a message nothing is told. -/
def Old (zs : List (Int × MailP)) (m : Msg) : Prop := findV zs m = none ∨ ∃ z, findV zs m = some z ∧ z.2.mod ≤ m.told
theorem turn_old {flags : List Text → Text} {zs : List (Int × MailP)} : ∀ {l : List Msg} {i : Nat}, (∀ m ∈ l, Old zs m) → turnT flags zs i l = [] ∧ l.map (turnM zs) = l
  | [], _, _ => ⟨rfl, rfl⟩
  | m :: r, i, h => by
    obtain ⟨h1, h2⟩ := turn_old (flags := flags) (l := r) (i := i + 1) fun y hy => h y (List.mem_cons_of_mem _ hy)
    rcases h m (List.mem_cons_self ..) with h3 | ⟨z, h3, h4⟩
    · refine ⟨?_, ?_⟩
      · unfold turnT
        rw [h3, h1]
        rfl
      · rw [List.map_cons, h2]
        unfold turnM
        rw [h3]
    · refine ⟨?_, ?_⟩
      · unfold turnT
        rw [h3, h1]
        simp only [if_neg (show ¬ m.told < z.2.mod by omega), List.nil_append]
      · rw [List.map_cons, h2]
        unfold turnM
        rw [h3]
        simp only [if_neg (show ¬ m.told < z.2.mod by omega)]
theorem gone_none {is : Msg → Bool} : ∀ {l : List Msg} {i : Nat}, (∀ m ∈ l, is m = true) → goneT is i l = [] ∧ l.filter is = l
  | [], _, _ => ⟨rfl, rfl⟩
  | m :: r, i, h => by
    obtain ⟨h1, h2⟩ := gone_none (l := r) (i := i + 1) fun y hy => h y (List.mem_cons_of_mem _ hy)
    have h3 := h m (List.mem_cons_self ..)
    refine ⟨?_, ?_⟩
    · unfold goneT
      rw [if_pos h3, h1]
    · rw [List.filter_cons_of_pos h3, h2]
theorem gone_snoc {is : Msg → Bool} : ∀ (l : List Msg) (i : Nat) (m : Msg), goneT is i (l ++ [m]) = goneT is i l ++ (if is m then [] else sayT (i + (l.filter is).length + 1) expungeT)
  | [], i, m => by
    simp only [List.nil_append, goneT, List.append_nil, List.filter_nil, List.length_nil]
    split <;> simp
  | y :: r, i, m => by
    have h := fun j => gone_snoc r j m (is := is)
    rw [List.cons_append]
    unfold goneT
    cases hy : is y with
    | true =>
      simp only [if_true, h, List.filter_cons_of_pos hy, List.length_cons]
      rw [show ((i + 1 : Nat) : Int) + ((r.filter is).length : Int) + 1 = (i : Int) + (((r.filter is).length + 1 : Nat) : Int) + 1 by omega]
    | false =>
      simp only [Bool.false_eq_true, if_false, h, List.filter_cons_of_neg (show ¬ is y = true by simp [hy]), List.append_assoc]

/-- An update that tells nothing. -/
theorem update_still (flags : List Text → Text) {zs : List (Int × MailP)} {v : ViewP} {all : Bool} (h1 : ∀ m ∈ v.l, Old zs m) (h2 : all = true → ∀ m ∈ v.l, isV zs m = true) (h3 : ∀ z ∈ zs, z.1 ≤ v.had) : updateV flags zs v all = ([], v) := by
  obtain ⟨b, l, had⟩ := v
  obtain ⟨a1, a2⟩ := turn_old (flags := flags) (i := 0) h1
  unfold updateV
  cases all with
  | true =>
    obtain ⟨a3, a4⟩ := gone_none (i := 0) (h2 rfl)
    simp only [if_true, a3, a4, a1, a2, fresh_none h3, Nat.lt_irrefl, if_false, List.append_nil]
  | false =>
    simp only [Bool.false_eq_true, if_false, a1, a2, fresh_none h3, Nat.lt_irrefl, List.append_nil]
/-- One that tells what is gone, and one that has come. -/
theorem update_gone (flags : List Text → Text) {zs : List (Int × MailP)} {z : Int × MailP} {v : ViewP} (h1 : ∀ m ∈ v.l, Old (zs ++ [z]) m) (h3 : ∀ z ∈ zs, z.1 ≤ v.had) (h4 : v.had < z.1) :
    updateV flags (zs ++ [z]) v true = (goneT (isV (zs ++ [z])) 0 v.l ++ sayT ((v.l.filter (isV (zs ++ [z]))).length + 1) existsT, addV ⟨v.box, v.l.filter (isV (zs ++ [z])), v.had⟩ z) := by
  obtain ⟨b, l, had⟩ := v
  obtain ⟨a1, a2⟩ := turn_old (flags := flags) (i := 0) (l := l.filter (isV (zs ++ [z]))) fun m hm => h1 m (List.mem_filter.1 hm).1
  unfold updateV
  simp only [if_true, a1, a2, fresh_snoc h3 h4, List.append_nil, addV, List.length_append, List.length_singleton, Nat.lt_succ_self]
  rfl

end Go.Proofs.YtgkfknbhkonfdaaGreatDoor

namespace Go.Proofs.YtgkfknbhkonfdaaGreatDoor

def xT : Text := [120]
def msK (k : Nat) : List MailP := (List.range k).map fun j => mailV xT (j + 1) (j + 2)
theorem msK_succ (k : Nat) : msK (k + 1) = msK k ++ [mailV xT (k + 1) (k + 2)] := by simp [msK, List.range_succ]
theorem msK_mem {k : Nat} {m : MailP} (h : m ∈ msK k) : ∃ j, j < k ∧ m = mailV xT (j + 1) (j + 2) := by
  obtain ⟨j, hj, rfl⟩ := List.mem_map.1 h
  exact ⟨j, List.mem_range.1 hj, rfl⟩
theorem msK_id {k : Nat} {m : MailP} (h : m ∈ msK k) : ∃ j, j < k ∧ m.id = ((j + 1 : Nat) : Int) := by
  obtain ⟨j, hj, rfl⟩ := msK_mem h
  exact ⟨j, hj, rfl⟩
theorem msK_nodup (k : Nat) : ((msK k).map (·.id)).Nodup := by
  unfold msK
  rw [List.map_map]
  refine List.pairwise_map.2 ?_
  refine (List.nodup_range (n := k)).imp fun {a b} hab e => hab ?_
  have : ((a + 1 : Nat) : Int) = ((b + 1 : Nat) : Int) := e
  omega
theorem msK_len (k : Nat) : (msK k).length = k := by simp [msK]

/-- Is email i to go? -/
def goneAt (gone : List Bool) (i : Nat) : Bool := gone[i - 1]?.getD false
def keepM (gone : List Bool) (i : Nat) (m : MailP) : Bool := !(decide (m.id ≤ i) && goneAt gone m.id.toNat)
def idsK (gone : List Bool) (i : Nat) : List Int := ((List.range i).map fun j => ((j + 1 : Nat) : Int)).filter fun n => !goneAt gone n.toNat
theorem idsK_succ (gone : List Bool) (i : Nat) : idsK gone (i + 1) = idsK gone i ++ (if goneAt gone (i + 1) then [] else [((i + 1 : Nat) : Int)]) := by
  unfold idsK
  rw [List.range_succ, List.map_append, List.filter_append, List.map_singleton]
  congr 1
  have e : ((i + 1 : Nat) : Int).toNat = i + 1 := by omega
  cases h : goneAt gone (i + 1) with
  | true => rw [List.filter_cons_of_neg (by rw [e, h]; decide)]; rfl
  | false => rw [List.filter_cons_of_pos (by rw [e, h]; decide)]; rfl
theorem idsK_len (gone : List Bool) : ∀ i, (idsK gone i).length ≤ i
  | 0 => by simp [idsK]
  | i + 1 => by
    have := idsK_len gone i
    rw [idsK_succ, List.length_append]
    split <;> simp <;> omega

def msG (gone : List Bool) (k i : Nat) : List MailP := (msK k).filter (keepM gone i)
theorem msG_zero (gone : List Bool) (k : Nat) : msG gone k 0 = msK k := by
  refine List.filter_eq_self.2 fun m hm => ?_
  obtain ⟨j, _, hj⟩ := msK_id hm
  have h0 : ¬ ((j + 1 : Nat) : Int) ≤ ((0 : Nat) : Int) := by omega
  unfold keepM
  rw [hj]
  simp only [h0, decide_false, Bool.false_and, Bool.not_false]
theorem msG_stay {gone : List Bool} {k i : Nat} (h : goneAt gone (i + 1) = false) : msG gone k (i + 1) = msG gone k i := by
  refine List.filter_congr fun m hm => ?_
  obtain ⟨j, _, hj⟩ := msK_id hm
  unfold keepM
  rw [hj, Int.toNat_natCast]
  by_cases h1 : j = i
  · subst h1
    rw [h]
    simp
  · have e : decide (((j + 1 : Nat) : Int) ≤ ((i + 1 : Nat) : Int)) = decide (((j + 1 : Nat) : Int) ≤ ((i : Nat) : Int)) := by
      rw [decide_eq_decide]
      omega
    rw [e]
theorem msG_go {gone : List Bool} {k i : Nat} (h : goneAt gone (i + 1) = true) : msG gone k (i + 1) = (msG gone k i).filter fun y => !decide (y.id = ((i + 1 : Nat) : Int)) := by
  unfold msG
  rw [List.filter_filter]
  refine List.filter_congr fun m hm => ?_
  obtain ⟨j, _, hj⟩ := msK_id hm
  unfold keepM
  rw [hj, Int.toNat_natCast]
  by_cases h1 : j = i
  · subst h1
    rw [h]
    simp
  · have e : decide (((j + 1 : Nat) : Int) ≤ ((i + 1 : Nat) : Int)) = decide (((j + 1 : Nat) : Int) ≤ ((i : Nat) : Int)) := by
      rw [decide_eq_decide]
      omega
    have e2 : decide (((j + 1 : Nat) : Int) = ((i + 1 : Nat) : Int)) = false := decide_eq_false (by omega)
    rw [e, e2]
    simp
theorem msG_mem {gone : List Bool} {k i : Nat} (hi : i < k) : mailV xT (i + 1) (i + 2) ∈ msG gone k i := by
  refine List.mem_filter.2 ⟨List.mem_map.2 ⟨i, List.mem_range.2 hi, rfl⟩, ?_⟩
  have h0 : ¬ ((i + 1 : Nat) : Int) ≤ ((i : Nat) : Int) := by omega
  unfold keepM
  rw [show (mailV xT (i + 1) (i + 2)).id = ((i + 1 : Nat) : Int) from rfl]
  simp only [h0, decide_false, Bool.false_and, Bool.not_false]
theorem msG_sub {gone : List Bool} {k i : Nat} {m : MailP} (h : m ∈ msG gone k i) : m ∈ msK k := (List.mem_filter.1 h).1
theorem msG_nodup (gone : List Bool) (k i : Nat) : ((msG gone k i).map (·.id)).Nodup := (List.filter_sublist.map _).nodup (msK_nodup k)
/-- The numbers of those that stay. -/
theorem msG_ids (gone : List Bool) (k : Nat) : (msG gone k k).map (·.id) = idsK gone k := by
  have e : msG gone k k = (msK k).filter ((fun n : Int => !goneAt gone n.toNat) ∘ (·.id)) := by
    refine List.filter_congr fun m hm => ?_
    obtain ⟨j, hj1, hj⟩ := msK_id hm
    unfold keepM
    rw [hj]
    have e1 : decide (((j + 1 : Nat) : Int) ≤ ((k : Nat) : Int)) = true := decide_eq_true (by omega)
    rw [e1, Bool.true_and]
    simp only [Function.comp_apply, hj]
  rw [e, ← List.filter_map]
  unfold idsK msK
  rw [List.map_map]
  rfl
/-- By their places they rise. -/
theorem msG_rising (gone : List Bool) (k i : Nat) : ((zsOf (msG gone k i)).map (·.1)).Pairwise (· < ·) := by
  unfold zsOf
  rw [List.map_map]
  have h : ((msK k).map (·.id)).Pairwise (· < ·) := by
    unfold msK
    rw [List.map_map]
    refine List.pairwise_map.2 ((List.pairwise_lt_range (n := k)).imp fun {a b} hab => ?_)
    show ((a + 1 : Nat) : Int) < ((b + 1 : Nat) : Int)
    omega
  exact h.sublist (List.filter_sublist.map _)

structure GoSt (x : Acc) (gone : List Bool) (k i : Nat) : Prop where
  st : ∃ c, c ≤ k + i ∧ ViSt x k c (msG gone k i)
theorem GoSt.start {x : Acc} {k : Nat} (gone : List Bool) (h : ViSt x k k (msK k)) : GoSt x gone k 0 := ⟨k, by omega, by rw [msG_zero]; exact h⟩
theorem GoSt.stay {x : Acc} {gone : List Bool} {k i : Nat} (h : GoSt x gone k i) (hg : goneAt gone (i + 1) = false) : GoSt x gone k (i + 1) := by
  obtain ⟨c, hc, hs⟩ := h.st
  exact ⟨c, by omega, by rw [msG_stay hg]; exact hs⟩
theorem GoSt.go {x : Acc} {gone : List Bool} {k i : Nat} (h : GoSt x gone k i) (hi : i < k) (hk : k ≤ 100) (hg : goneAt gone (i + 1) = true) : ∃ x', destroyP x ((i + 1 : Nat) : Int) = (x', 0) ∧ GoSt x' gone k (i + 1) := by
  obtain ⟨c, hc, hs⟩ := h.st
  obtain ⟨x', h1, h2⟩ := hs.gone (by omega) (msG_mem (gone := gone) hi)
  exact ⟨x', h1, c + 1, by omega, by rw [msG_go hg]; exact h2⟩

/-- A new view of what is there tells nothing. -/
theorem viewNew_still (flags : List Text → Text) (gone : List Bool) (k : Nat) (all : Bool) : updateV flags (zsOf (msG gone k k)) (newV 1 (zsOf (msG gone k k))) all = ([], newV 1 (zsOf (msG gone k k))) := by
  obtain ⟨_, h2, h3, _⟩ := new_view (ms := msG gone k k) (k := k) (by omega) fun m hm => by
    obtain ⟨j, hj, e⟩ := msK_id (msG_sub hm)
    rw [e]
    omega
  have hf : ∀ m ∈ (newV 1 (zsOf (msG gone k k))).l, ∃ z, findV (zsOf (msG gone k k)) m = some z ∧ z.2.mod ≤ m.told := by
    rw [h2]
    intro m hm
    obtain ⟨y, hy, rfl⟩ := List.mem_map.1 hm
    refine ⟨(y.id, y), ?_, Int.le_refl _⟩
    rw [find_zs _ _ rfl, show (msgOf y).id = y.id from rfl, find_self (msG_nodup gone k k) hy]
    rfl
  refine update_still flags (fun m hm => .inr (hf m hm)) (fun _ m hm => ?_) fun z hz => ?_
  · obtain ⟨z, hz, _⟩ := hf m hm
    unfold isV
    rw [hz]
    rfl
  · obtain ⟨m, hm, rfl⟩ := List.mem_map.1 hz
    exact h3 m hm

/-- What goes is not told before all is asked. -/
theorem viewGone_quiet (flags : List Text → Text) (gone : List Bool) (k : Nat) : updateV flags (zsOf (msG gone k k)) (newV 1 (zsOf (msK k))) false = ([], newV 1 (zsOf (msK k))) := by
  obtain ⟨_, h2, h3, _⟩ := new_view (ms := msK k) (k := k) (by omega) fun m hm => by
    obtain ⟨j, hj, e⟩ := msK_id hm
    rw [e]
    omega
  refine update_still flags (fun m hm => ?_) (fun h => by cases h) fun z hz => ?_
  · rw [h2] at hm
    obtain ⟨y, hy, rfl⟩ := List.mem_map.1 hm
    cases hq : keepM gone k y with
    | true =>
      refine .inr ⟨(y.id, y), ?_, Int.le_refl _⟩
      rw [find_zs _ _ rfl, show (msgOf y).id = y.id from rfl, find_self (msG_nodup gone k k) (List.mem_filter.2 ⟨hy, hq⟩)]
      rfl
    | false =>
      refine .inl ?_
      rw [find_zs _ _ rfl, show (msgOf y).id = y.id from rfl, find_not fun z hz e => ?_]
      · rfl
      · have h5 := find_self (msK_nodup k) hy
        have h6 := find_self (msK_nodup k) (msG_sub hz)
        rw [e, h5] at h6
        have h7 := Option.some.inj h6
        rw [h7, (List.mem_filter.1 hz).2] at hq
        cases hq
  · obtain ⟨m, hm, rfl⟩ := List.mem_map.1 hz
    exact h3 m (msG_sub hm)

/-- What the law wants, behind its i-th round. -/
def wantG (gone : List Bool) : Nat → Text
  | 0 => []
  | i + 1 => wantG gone i ++ (if goneAt gone (i + 1) then sayT ((idsK gone i).length + 1) expungeT else [])
def isG (gone : List Bool) (m : Msg) : Bool := !goneAt gone m.id.toNat
theorem goneT_congr {p q : Msg → Bool} : ∀ {l : List Msg} {i : Nat}, (∀ m ∈ l, p m = q m) → goneT p i l = goneT q i l
  | [], _, _ => rfl
  | m :: r, i, h => by
    have h1 := fun j => goneT_congr (l := r) (i := j) fun y hy => h y (List.mem_cons_of_mem _ hy)
    unfold goneT
    rw [h m (List.mem_cons_self ..), h1, h1]
theorem wantG_is (gone : List Bool) : ∀ k, goneT (isG gone) 0 ((msK k).map msgOf) = wantG gone k ∧ (((msK k).map msgOf).filter (isG gone)).length = (idsK gone k).length
  | 0 => ⟨rfl, rfl⟩
  | k + 1 => by
    obtain ⟨h1, h2⟩ := wantG_is gone k
    rw [msK_succ, List.map_append, List.map_singleton]
    have e : isG gone (msgOf (mailV xT (k + 1) (k + 2))) = !goneAt gone (k + 1) := by
      unfold isG
      rw [show (msgOf (mailV xT (k + 1) (k + 2))).id = ((k + 1 : Nat) : Int) from rfl, Int.toNat_natCast]
    refine ⟨?_, ?_⟩
    · rw [gone_snoc, h1, h2, e]
      show _ = wantG gone k ++ (if goneAt gone (k + 1) then sayT ((idsK gone k).length + 1) expungeT else [])
      cases goneAt gone (k + 1) with
      | true => simp
      | false => simp
    · rw [List.filter_append, List.length_append, h2, idsK_succ, List.length_append]
      cases hg : goneAt gone (k + 1) with
      | true => rw [List.filter_cons_of_neg (by rw [e, hg]; decide)]; rfl
      | false => rw [List.filter_cons_of_pos (by rw [e, hg]; decide)]; rfl
/-- The update of all, behind one that has come. -/
theorem viewGone_told (flags : List Text → Text) (gone : List Bool) (k c : Nat) : ∃ v', updateV flags (zsOf (msG gone k k ++ [mailV xT (k + 1) c])) (newV 1 (zsOf (msK k))) true = (wantG gone k ++ sayT ((idsK gone k).length + 1) existsT, v') ∧ v'.l.length = (idsK gone k).length + 1 := by
  obtain ⟨_, h2, h3, h4⟩ := new_view (ms := msK k) (k := k) (by omega) fun m hm => by
    obtain ⟨j, hj, e⟩ := msK_id hm
    rw [e]
    omega
  have hne : ∀ m ∈ msK k, m.id ≠ ((k + 1 : Nat) : Int) := fun m hm e => by
    obtain ⟨j, hj, e2⟩ := msK_id hm
    omega
  have hnew : ∀ y ∈ msK k, findV (zsOf (msG gone k k ++ [mailV xT (k + 1) c])) (msgOf y) = if keepM gone k y then some (y.id, y) else none := by
    intro y hy
    rw [find_zs _ _ rfl, show (msgOf y).id = y.id from rfl, List.find?_append]
    have h9 : List.find? (fun z : MailP => decide (z.id = y.id)) [mailV xT (k + 1) c] = none := by
      rw [List.find?_cons_of_neg (by
        rw [decide_eq_true_iff]
        exact fun e => hne y hy (Eq.symm e))]
      rfl
    rw [h9]
    cases hq : keepM gone k y with
    | true =>
      rw [find_self (msG_nodup gone k k) (List.mem_filter.2 ⟨hy, hq⟩)]
      rfl
    | false =>
      rw [find_not fun z hz e => ?_]
      · rfl
      · have h5 := find_self (msK_nodup k) hy
        have h6 := find_self (msK_nodup k) (msG_sub hz)
        rw [e, h5] at h6
        have h7 := Option.some.inj h6
        rw [h7, (List.mem_filter.1 hz).2] at hq
        cases hq
  have his : ∀ m ∈ (msK k).map msgOf, isV (zsOf (msG gone k k ++ [mailV xT (k + 1) c])) m = isG gone m := by
    intro m hm
    obtain ⟨y, hy, rfl⟩ := List.mem_map.1 hm
    unfold isV
    rw [hnew y hy]
    obtain ⟨j, hj, e⟩ := msK_id hy
    have hk : keepM gone k y = isG gone (msgOf y) := by
      unfold keepM isG
      rw [show (msgOf y).id = y.id from rfl, e]
      have e1 : decide (((j + 1 : Nat) : Int) ≤ ((k : Nat) : Int)) = true := decide_eq_true (by omega)
      rw [e1, Bool.true_and]
    rw [hk]
    cases isG gone (msgOf y) <;> rfl
  have hz : zsOf (msG gone k k ++ [mailV xT (k + 1) c]) = zsOf (msG gone k k) ++ [(((k + 1 : Nat) : Int), mailV xT (k + 1) c)] := by simp [zsOf, mailV]
  rw [hz] at hnew his ⊢
  obtain ⟨w1, w2⟩ := wantG_is gone k
  have hg := update_gone flags (zs := zsOf (msG gone k k)) (z := (((k + 1 : Nat) : Int), mailV xT (k + 1) c)) (v := newV 1 (zsOf (msK k))) (fun m hm => by
    rw [h2] at hm
    obtain ⟨y, hy, rfl⟩ := List.mem_map.1 hm
    have h8 := hnew y hy
    cases hq : keepM gone k y with
    | true => exact .inr ⟨(y.id, y), by rw [h8, hq]; rfl, Int.le_refl _⟩
    | false => exact .inl (by rw [h8, hq]; rfl)) (fun z hz2 => by
      obtain ⟨m, hm, rfl⟩ := List.mem_map.1 hz2
      exact h3 m (msG_sub hm)) (by show _ < ((k + 1 : Nat) : Int); omega)
  rw [h2] at hg
  rw [goneT_congr his, w1, List.filter_congr his, w2] at hg
  refine ⟨_, hg, ?_⟩
  show (List.filter (isG gone) ((msK k).map msgOf) ++ [_]).length = _
  rw [List.length_append, w2]
  rfl

end Go.Proofs.YtgkfknbhkonfdaaGreatDoor
