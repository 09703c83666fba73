/-
  The log in plain words, with no program in sight: entries, what is added, what is told since a state, in the program's own order of steps and in the document's.
-/
import Derived.Below
namespace Go.Proofs.YtmbibhphpjmboaaGreatDoor
open Go.RowKit

/-- An entry: Mod, Kind, Id, How. -/
structure E4 where
  m : Int
  k : Int
  i : Int
  h : Int
  deriving DecidableEq, Inhabited

def encE (e : E4) : List Value := [.int .i64 e.m, .int .i64 e.k, .int .i64 e.i, .int .i64 e.h]
def flatE (l : List E4) : List Value := l.flatMap encE

theorem flatE_nil : flatE [] = [] := rfl
theorem flatE_cons (e : E4) (l : List E4) : flatE (e :: l) = encE e ++ flatE l := by simp [flatE]
theorem flatE_append (a b : List E4) : flatE (a ++ b) = flatE a ++ flatE b := by simp [flatE]
theorem flatE_length : ∀ l : List E4, (flatE l).length = l.length * 4
  | [] => rfl
  | e :: l => by rw [flatE_cons, List.length_append, flatE_length l, List.length_cons]; simp [encE]; omega
theorem flatE_get : ∀ (l : List E4) (k j : Nat) (hk : k < l.length), j < 4 → (flatE l)[k * 4 + j]? = (encE l[k])[j]?
  | e :: l, 0, j, _, hj => by
    rw [flatE_cons, Nat.zero_mul, Nat.zero_add, List.getElem?_append_left (by simp [encE]; omega)]
    rfl
  | e :: l, k + 1, j, hk, hj => by
    rw [flatE_cons, List.getElem?_append_right (by simp [encE]; omega)]
    have : (k + 1) * 4 + j - (encE e).length = k * 4 + j := by simp [encE]; omega
    rw [this, flatE_get l k j (by simpa using hk) hj]
    rfl
theorem flatE_at (l : List E4) (k : Nat) (hk : k < l.length) :
    (flatE l)[k * 4]? = some (.int .i64 l[k].m) ∧ (flatE l)[k * 4 + 1]? = some (.int .i64 l[k].k) ∧ (flatE l)[k * 4 + 2]? = some (.int .i64 l[k].i) ∧ (flatE l)[k * 4 + 3]? = some (.int .i64 l[k].h) :=
  ⟨flatE_get l k 0 hk (by omega), flatE_get l k 1 hk (by omega), flatE_get l k 2 hk (by omega), flatE_get l k 3 hk (by omega)⟩
theorem flatE_drop (l : List E4) (k : Nat) : (flatE l).drop (k * 4) = flatE (l.drop k) := by
  induction k generalizing l with
  | zero => simp
  | succ k ih =>
    cases l with
    | nil => simp [flatE]
    | cons e l =>
      rw [flatE_cons, List.drop_succ_cons, ← ih l, show (k + 1) * 4 = (encE e).length + k * 4 from by simp [encE]; omega, List.drop_append, Nat.add_sub_cancel_left, List.drop_of_length_le (Nat.le_add_right _ _), List.nil_append]
theorem encE_one (e : E4) : ∀ u ∈ encE e, u.oneCell' = true := by
  intro u hu
  simp only [encE, List.mem_cons, List.not_mem_nil, or_false] at hu
  rcases hu with rfl | rfl | rfl | rfl <;> rfl

/-- Entries are added till one's clock falls. -/
def addLoop : List E4 → List E4 → List E4
  | es, [] => es
  | es, x :: r => if ∃ y ∈ es.getLast?, x.m < y.m then es else addLoop (es ++ [x]) r

/-- A log: how many it keeps, what it keeps, the greatest clock that it has forgotten. -/
structure LogV where
  most : Int
  es : List E4
  floor : Int

/-- What is behind an Add. -/
def LogV.add (x : LogV) (e : List E4) : LogV :=
  if ((addLoop x.es e).length : Int) - x.most > 0 then
    ⟨x.most, (addLoop x.es e).drop (((addLoop x.es e).length : Int) - x.most).toNat, ((addLoop x.es e)[(((addLoop x.es e).length : Int) - x.most).toNat - 1]?.getD default).m⟩
  else ⟨x.most, addLoop x.es e, x.floor⟩

theorem addLoop_length (es e : List E4) : (addLoop es e).length ≤ es.length + e.length := by
  induction e generalizing es with
  | nil => simp [addLoop]
  | cons x r ih =>
    unfold addLoop
    split
    · simp
    · have := ih (es ++ [x])
      simp only [List.length_append, List.length_cons, List.length_nil] at this ⊢
      omega
theorem LogV.add_length (x : LogV) (e : List E4) (hm : 1 ≤ x.most) : ((x.add e).es.length : Int) ≤ x.most ∧ (x.add e).most = x.most := by
  unfold LogV.add
  split
  · refine ⟨?_, rfl⟩
    simp only [List.length_drop]
    omega
  · refine ⟨?_, rfl⟩
    simp only
    omega

/-- What befell ids, in the order in which they first came: id, first, last. -/
abbrev Seen := List (Int × Int × Int)
def addS : Seen → E4 → Seen
  | [], e => [(e.i, e.h, e.h)]
  | p :: r, e => if p.1 = e.i then (p.1, p.2.1, e.h) :: r else p :: addS r e
theorem addS_new : ∀ (s : Seen) (e : E4), s.find? (fun p => p.1 == e.i) = none → addS s e = s ++ [(e.i, e.h, e.h)]
  | [], _, _ => rfl
  | p :: r, e, h => by
    have hp : ¬ p.1 = e.i := by
      intro hp
      simp [hp] at h
    have hr : r.find? (fun p => p.1 == e.i) = none := by simpa [hp] using h
    rw [addS, if_neg hp, addS_new r e hr]
    rfl
theorem addS_found : ∀ (s : Seen) (e : E4) (p : Int × Int × Int), s.find? (fun p => p.1 == e.i) = some p →
    (addS s e).map (·.1) = s.map (·.1) ∧ (addS s e).find? (fun p => p.1 == e.i) = some (e.i, p.2.1, e.h) ∧ ∀ x, x ≠ e.i → (addS s e).find? (fun p => p.1 == x) = s.find? (fun p => p.1 == x)
  | [], _, _, h => by simp at h
  | q :: r, e, p, h => by
    by_cases hq : q.1 = e.i
    · have hqp : q = p := by simpa [hq] using h
      subst hqp
      rw [addS, if_pos hq]
      refine ⟨rfl, by simp [hq], fun x hx => ?_⟩
      have : (q.1 == x) = false := by rw [hq, beq_eq_false_iff_ne]; exact fun e => hx e.symm
      simp [this]
    · have hr : r.find? (fun p => p.1 == e.i) = some p := by simpa [hq] using h
      obtain ⟨h1, h2, h3⟩ := addS_found r e p hr
      rw [addS, if_neg hq]
      refine ⟨by simp [h1], by simp [hq, h2], fun x hx => ?_⟩
      simp only [List.find?_cons]
      cases q.1 == x
      · exact h3 x hx
      · rfl

/-- The three lists. -/
structure Told where
  made : List Int
  turned : List Int
  gone : List Int
  deriving DecidableEq
def toldOne (t : Told) (p : Int × Int × Int) : Told :=
  if p.2.1 = 1 ∧ p.2.2 = 3 then t
  else if p.2.1 = 1 then { t with made := t.made ++ [p.1] }
  else if p.2.2 = 3 then { t with gone := t.gone ++ [p.1] }
  else { t with turned := t.turned ++ [p.1] }
def toldS (s : Seen) : Told := s.foldl toldOne ⟨[], [], []⟩
def told (l : List E4) : Told := toldS (l.foldl addS [])
def Told.size (t : Told) : Nat := t.made.length + t.turned.length + t.gone.length

/-- What is asked for. -/
def takes (kind frm clock : Int) (e : E4) : Bool := e.k == kind && decide (frm < e.m) && decide (e.m ≤ clock)

/-- An answer: the lists, the state, whether there is more; or the error's number. -/
structure Ans where
  t : Told
  state : Int
  more : Bool
  err : Int
  deriving DecidableEq
def Ans.none_ : Ans := ⟨⟨[], [], []⟩, 0, false, 12⟩

/-- The program's loop, group by group: what was taken, what is left, the answer so far, the last state. -/
def loopP (frm clock most : Int) : Nat → List E4 → List E4 → Told → Int → Ans
  | 0, _, _, t, _ => ⟨t, clock, false, 0⟩
  | _ + 1, _, [], t, _ => ⟨t, clock, false, 0⟩
  | f + 1, done, x :: r, t, last =>
    let g := (x :: r).takeWhile (fun e => e.m == x.m)
    let c := told (done ++ g)
    if 0 < most ∧ most < c.size then (if last = frm then Ans.none_ else ⟨t, last, true, 0⟩)
    else loopP frm clock most f (done ++ g) ((x :: r).drop g.length) c x.m

def LogV.since (x : LogV) (kind frm clock most : Int) : Ans :=
  if frm < x.floor ∨ clock < frm then Ans.none_
  else loopP frm clock most (x.es.filter (takes kind frm clock)).length [] (x.es.filter (takes kind frm clock)) ⟨[], [], []⟩ frm

end Go.Proofs.YtmbibhphpjmboaaGreatDoor
