/-
  What is read is a tree: each term but the last is a kid of just one term, which comes behind it; plain.
  The walks of law 23's great and rise.
  Texts that a filter asks for are short; what CritRights hands to its calls.
-/
import Derived.Test.YtnfabgbidkddhaaGreatDoorHoldTM
import Derived.Test.YtnfabgbidkddhaaGreatDoorCritAwakeM
import Derived.Test.YtnfabgbidkddhaaGreatDoorHoldPM
import Derived.Deep.QuietTactic
namespace Go.Proofs.YtnfabgbidkddhaaGreatDoor
open Go.RowKit

theorem holdsT_succ {e : Em} {f : Out} {n i : Nat} {t : Tm} (h : f[i]? = some t) : holdsT e f (n + 1) i = (
      if t.kind = 1 then t.kids.all fun k => holdsT e f n k.toNat
      else if t.kind = 2 then t.kids.any fun k => holdsT e f n k.toNat
      else if t.kind = 3 then !(t.kids.any fun k => holdsT e f n k.toNat)
      else if t.kind = 4 then e.mem.any fun m => (m.1 == t.n) != false
      else if t.kind = 5 then e.mem.any fun m => (m.1 == t.n) != true
      else if t.kind = 6 then e.keys.any fun k => k == t.text
      else if t.kind = 7 then decide (e.sec < t.n)
      else if t.kind = 8 then decide (t.n ≤ e.sec)
      else if t.kind = 9 then decide (t.n ≤ (e.text.length : Nat))
      else if t.kind = 10 then decide (((e.text.length : Nat) : Int) < t.n)
      else if t.kind = 14 then e.mem.any fun m => m.1 == t.n && inL t.set m.2
      else if t.kind = 15 then decide (t.n ≤ e.mod)
      else if t.kind = 11 then tinB ⟨(bodyL e).toArray⟩ t.text || (splitF e.text).1.any fun x => tinB ⟨x.2.toArray⟩ t.text
      else if t.kind = 12 then (splitF e.text).1.any fun x => hdB x t.name t.text
      else if t.kind = 13 then tinB ⟨(bodyL e).toArray⟩ t.text
      else false) := by
  show (match f[i]? with | none => false | some t => _) = _
  rw [h]
theorem holdsT_and {e : Em} {f : Out} {n i : Nat} {ks : List Int} (h : f[i]? = some (tmK 1 ks)) : holdsT e f (n + 1) i = ks.all fun k => holdsT e f n k.toNat := by
  rw [holdsT_succ h]
  rfl
theorem holdsT_not {e : Em} {f : Out} {n i : Nat} {ks : List Int} (h : f[i]? = some (tmK 3 ks)) : holdsT e f (n + 1) i = !(ks.any fun k => holdsT e f n k.toNat) := by
  rw [holdsT_succ h]
  rfl

/-- How often a place is a kid. -/
def cntK (l : Out) (i : Int) : Nat := (l.flatMap Tm.kids).count i
theorem cntK_append (a b : Out) (i : Int) : cntK (a ++ b) i = cntK a i + cntK b i := by
  unfold cntK
  rw [List.flatMap_append, List.count_append]
theorem cntK_cons (t : Tm) (b : Out) (i : Int) : cntK (t :: b) i = t.kids.count i + cntK b i := by
  unfold cntK
  rw [List.flatMap_cons, List.count_append]
def kindOk (k : Int) : Bool := k == 1 || k == 2 || k == 3 || k == 6 || k == 7 || k == 8 || k == 9 || k == 10 || k == 11 || k == 12 || k == 13 || k == 14 || k == 15

/-- Terms from place b on: each is a kid once, or a root once; kids come ahead. -/
structure Seg (b : Nat) (l : Out) (roots : List Int) : Prop where
  low : ∀ j (h : j < l.length), ∀ k ∈ l[j].kids, (b : Int) ≤ k ∧ k < (b : Int) + j
  kind : ∀ t ∈ l, kindOk t.kind = true
  one : ∀ i : Nat, i < l.length → cntK l ((b : Int) + i) + roots.count ((b : Int) + i) = 1
  rt : ∀ r ∈ roots, (b : Int) ≤ r ∧ r < (b : Int) + l.length

theorem Seg.nil (b : Nat) : Seg b [] [] := ⟨fun j h => by simp at h, by simp, fun i h => by simp at h, by simp⟩
theorem Seg.in_ {b : Nat} {l : Out} {r : List Int} (s : Seg b l r) : ∀ t ∈ l, ∀ k ∈ t.kids, (b : Int) ≤ k ∧ k < (b : Int) + l.length := by
  intro t ht k hk
  obtain ⟨j, hj, rfl⟩ := List.getElem_of_mem ht
  have := s.low j hj k hk
  omega
theorem Seg.out {b : Nat} {l : Out} {r : List Int} (s : Seg b l r) (i : Int) (h : i < b ∨ (b : Int) + l.length ≤ i) : cntK l i = 0 ∧ r.count i = 0 := by
  constructor
  · unfold cntK
    rw [List.count_eq_zero]
    intro hm
    obtain ⟨t, ht, hk⟩ := List.mem_flatMap.1 hm
    have := s.in_ t ht i hk
    omega
  · rw [List.count_eq_zero]
    intro hm
    have := s.rt i hm
    omega
/-- One term without kids. -/
theorem Seg.leaf (b : Nat) (t : Tm) (hk : t.kids = []) (ht : kindOk t.kind = true) : Seg b [t] [(b : Int)] := by
  refine ⟨fun j h => ?_, by simpa using ht, fun i h => ?_, by simp; omega⟩
  · have : j = 0 := by simpa using h
    subst this
    simp [hk]
  · have : i = 0 := by simpa using h
    subst this
    simp [cntK, hk]
/-- One behind the other. -/
theorem Seg.app {b c : Nat} {l l' : Out} {r r' : List Int} (s : Seg b l r) (s' : Seg c l' r') (hc : c = b + l.length) : Seg b (l ++ l') (r ++ r') := by
  subst hc
  refine ⟨fun j h => ?_, fun t ht => ?_, fun i h => ?_, fun x hx => ?_⟩
  · by_cases hj : j < l.length
    · rw [List.getElem_append_left hj]
      exact s.low j hj
    · rw [List.getElem_append_right (by omega)]
      intro k hk
      have := s'.low (j - l.length) (by rw [List.length_append] at h; omega) k hk
      omega
  · rcases List.mem_append.1 ht with h | h
    · exact s.kind t h
    · exact s'.kind t h
  · rw [cntK_append, List.count_append]
    rw [List.length_append] at h
    by_cases hi : i < l.length
    · have h1 := s.one i hi
      have h2 := s'.out ((b : Int) + i) (.inl (by omega))
      omega
    · have h1 := s'.one (i - l.length) (by omega)
      have h2 := s.out ((b : Int) + i) (.inr (by omega))
      have e : (((b + l.length : Nat) : Int) + ((i - l.length : Nat) : Int)) = (b : Int) + i := by omega
      rw [e] at h1
      omega
  · rw [List.length_append]
    rcases List.mem_append.1 hx with h | h
    · have := s.rt x h
      omega
    · have := s'.rt x h
      omega
/-- A term over all roots. -/
theorem Seg.over {b : Nat} {l : Out} {r : List Int} (s : Seg b l r) (t : Tm) (hk : t.kids = r) (ht : kindOk t.kind = true) : Seg b (l ++ [t]) [((b + l.length : Nat) : Int)] := by
  refine ⟨fun j h => ?_, fun x hx => ?_, fun i h => ?_, fun x hx => ?_⟩
  · by_cases hj : j < l.length
    · rw [List.getElem_append_left hj]
      exact s.low j hj
    · rw [List.getElem_append_right (by omega)]
      intro k hk2
      have hjl : j = l.length := by
        rw [List.length_append, List.length_singleton] at h
        omega
      subst hjl
      simp only [Nat.sub_self, List.getElem_cons_zero, hk] at hk2
      exact s.rt k hk2
  · rcases List.mem_append.1 hx with h | h
    · exact s.kind x h
    · rw [List.mem_singleton.1 h]
      exact ht
  · rw [cntK_append]
    rw [List.length_append, List.length_singleton] at h
    have h0 : cntK [t] ((b : Int) + i) = r.count ((b : Int) + i) := by simp [cntK, hk]
    rw [h0]
    by_cases hi : i < l.length
    · have h1 := s.one i hi
      have h2 : ([((b + l.length : Nat) : Int)].count ((b : Int) + i)) = 0 := by
        rw [List.count_eq_zero, List.mem_singleton]
        omega
      omega
    · have hil : i = l.length := by omega
      subst hil
      have h2 := s.out ((b : Int) + (l.length : Nat)) (.inr (by omega))
      have h3 : ([((b + l.length : Nat) : Int)].count ((b : Int) + (l.length : Nat))) = 1 := by
        rw [show ((b + l.length : Nat) : Int) = (b : Int) + (l.length : Nat) by omega]
        simp
      omega
  · rw [List.mem_singleton.1 hx, List.length_append, List.length_singleton]
    omega

/-- What a key puts is a tree of its own. -/
def KeySeg (f : List WT → Out → Bool → Res) : Prop := ∀ ws out mod k ws' out' mod', f ws out mod = some (k, ws', out', mod') → ∃ new, out' = out ++ new ∧ Seg out.length new [k]
theorem put_seg {t : Tm} {ws : List WT} {out : Out} {mod : Bool} {k : Int} {ws' : List WT} {out' : Out} {mod' : Bool} (h : putP t ws out mod = some (k, ws', out', mod')) (hk : t.kids = []) (ht : kindOk t.kind = true) : ∃ new, out' = out ++ new ∧ Seg out.length new [k] := by
  unfold putP at h
  simp only [Option.some.injEq, Prod.mk.injEq] at h
  obtain ⟨rfl, _, rfl, _⟩ := h
  exact ⟨[t], rfl, Seg.leaf _ t hk ht⟩
theorem not_seg {r : Res} {out : Out} {k : Int} {ws' : List WT} {out' : Out} {mod' : Bool} (hr : ∀ k ws' out' mod', r = some (k, ws', out', mod') → ∃ new, out' = out ++ new ∧ Seg out.length new [k]) (h : notP r = some (k, ws', out', mod')) : ∃ new, out' = out ++ new ∧ Seg out.length new [k] := by
  cases r with
  | none => simp [notP] at h
  | some x =>
    obtain ⟨k1, ws1, out1, mod1⟩ := x
    obtain ⟨new, rfl, hs⟩ := hr _ _ _ _ rfl
    simp only [notP, putP, Option.some.injEq, Prod.mk.injEq] at h
    obtain ⟨rfl, _, rfl, _⟩ := h
    refine ⟨new ++ [tmK 3 [k1]], by rw [List.append_assoc], ?_⟩
    have := hs.over (tmK 3 [k1]) rfl rfl
    rw [List.length_append]
    exact this
/-- The kinds that a key's terms have are known ones. -/
def askOk : Ask → Bool
  | .time k => kindOk k
  | .counts k _ => kindOk k
  | .says k => kindOk k
  | .un a => askOk a
  | _ => true
theorem askOf_ok {t : ByteArray} {a : Ask} (h : askOf t = some a) : askOk a = true := by
  unfold askOf getS at h
  rw [Option.map_eq_some_iff] at h
  obtain ⟨p, hp, rfl⟩ := h
  have hm := List.mem_of_find?_eq_some hp
  have hall : askTab.all (fun p => askOk p.2) = true := by decide
  exact List.all_eq_true.1 hall p hm
theorem step_seg (E : CEnv) : ∀ (a : Ask) (ws : List WT) (out : Out) (mod : Bool) (k : Int) (ws' : List WT) (out' : Out) (mod' : Bool), askOk a = true → stepA E a ws out mod = some (k, ws', out', mod') → ∃ new, out' = out ++ new ∧ Seg out.length new [k]
  | .all, ws, out, mod, k, ws', out', mod', _, h => put_seg h rfl rfl
  | .keyword, ws, out, mod, k, ws', out', mod', _, h => by
    unfold stepA at h
    split at h
    · cases h
    · split at h
      · exact put_seg h rfl rfl
      · cases h
  | .on, ws, out, mod, k, ws', out', mod', _, h => by
    unfold stepA at h
    split at h
    · cases h
    · rename_i n r _
      simp only [Option.some.injEq, Prod.mk.injEq] at h
      obtain ⟨rfl, _, rfl, _⟩ := h
      refine ⟨[tmN 8 n] ++ [tmN 7 (n + 86400)] ++ [tmK 1 [(out.length : Int), (out.length : Int) + 1]], by simp, ?_⟩
      have h1 := Seg.leaf out.length (tmN 8 n) rfl rfl
      have h2 := Seg.leaf (out.length + 1) (tmN 7 (n + 86400)) rfl rfl
      have h3 := (h1.app h2 rfl).over (tmK 1 [(out.length : Int), (out.length : Int) + 1]) (by simp [tmK]) rfl
      have e : ((out.length + ([tmN 8 n] ++ [tmN 7 (n + 86400)]).length : Nat) : Int) = (out.length : Int) + 2 := by simp
      rw [e] at h3
      exact h3
  | .header, ws, out, mod, k, ws', out', mod', _, h => by
    unfold stepA at h
    split at h
    · cases h
    · split at h
      · cases h
      · exact put_seg h rfl rfl
  | .uid, ws, out, mod, k, ws', out', mod', _, h => by
    unfold stepA at h
    split at h
    · cases h
    · split at h
      · exact put_seg h rfl rfl
      · cases h
  | .modseq, ws, out, mod, k, ws', out', mod', _, h => by
    unfold stepA at h
    split at h
    · cases h
    · exact put_seg h rfl rfl
  | .time q, ws, out, mod, k, ws', out', mod', ho, h => by
    unfold stepA at h
    split at h
    · cases h
    · exact put_seg h rfl (by simpa [askOk, tmN] using ho)
  | .counts q m, ws, out, mod, k, ws', out', mod', ho, h => by
    unfold stepA at h
    split at h
    · cases h
    · exact put_seg h rfl (by simpa [askOk, tmN] using ho)
  | .says q, ws, out, mod, k, ws', out', mod', ho, h => by
    unfold stepA at h
    split at h
    · cases h
    · exact put_seg h rfl (by simpa [askOk, tmT] using ho)
  | .head n, ws, out, mod, k, ws', out', mod', _, h => by
    unfold stepA at h
    split at h
    · cases h
    · exact put_seg h rfl rfl
  | .has q, ws, out, mod, k, ws', out', mod', _, h => put_seg h rfl rfl
  | .un a, ws, out, mod, k, ws', out', mod', ho, h => by
    unfold stepA at h
    exact not_seg (fun k1 ws1 out1 mod1 h1 => step_seg E a ws out mod k1 ws1 out1 mod1 ho h1) h
  | .not, _, _, _, _, _, _, _, _, h => by cases h
  | .or, _, _, _, _, _, _, _, _, h => by cases h
theorem place_seg (E : CEnv) {t : ByteArray} {ws : List WT} {out : Out} {mod : Bool} {k : Int} {ws' : List WT} {out' : Out} {mod' : Bool} (h : placeP E t ws out mod = some (k, ws', out', mod')) : ∃ new, out' = out ++ new ∧ Seg out.length new [k] := by
  unfold placeP at h
  split at h
  · exact put_seg h rfl rfl
  · cases h
theorem whole_seg {f : List WT → Out → Bool → Res} (hf : KeySeg f) (b : Out) : ∀ (n : Nat) (ws : List WT) (cur : Out) (mod : Bool) (kids : List Int) (k : Int) (out' : Out) (mod' : Bool), Seg b.length cur kids → wholeP f n ws (b ++ cur) mod kids = some (k, out', mod') →
    ∃ new, out' = b ++ new ∧ Seg b.length new [k] ∧ k = (out'.length : Int) - 1
  | n, [], cur, mod, kids, k, out', mod', hs, h => by
    unfold wholeP at h
    split at h
    · cases h
    · simp only [Option.some.injEq, Prod.mk.injEq] at h
      obtain ⟨rfl, rfl, _⟩ := h
      refine ⟨cur ++ [tmK 1 kids], by rw [List.append_assoc], ?_, by simp; omega⟩
      have := hs.over (tmK 1 kids) rfl rfl
      rw [List.length_append]
      exact this
  | 0, _ :: _, _, _, _, _, _, _, _, h => by cases h
  | n + 1, t :: ts, cur, mod, kids, k, out', mod', hs, h => by
    unfold wholeP at h
    split at h
    · cases h
    · rename_i k1 ws1 out1 mod1 h1
      obtain ⟨new, rfl, hn⟩ := hf _ _ _ _ _ _ _ h1
      rw [List.append_assoc] at h
      exact whole_seg hf b n ws1 (cur ++ new) mod1 (kids ++ [k1]) k out' mod' (hs.app hn (by rw [List.length_append])) h
theorem or_seg {f : List WT → Out → Bool → Res} (hf : KeySeg f) : KeySeg (orP f) := by
  intro ws out mod k ws' out' mod' h
  unfold orP at h
  split at h
  · cases h
  · rename_i k1 ws1 out1 mod1 h1
    split at h
    · cases h
    · rename_i k2 ws2 out2 mod2 h2
      obtain ⟨n1, rfl, s1⟩ := hf _ _ _ _ _ _ _ h1
      obtain ⟨n2, rfl, s2⟩ := hf _ _ _ _ _ _ _ h2
      simp only [putP, Option.some.injEq, Prod.mk.injEq] at h
      obtain ⟨rfl, _, rfl, _⟩ := h
      refine ⟨n1 ++ n2 ++ [tmK 2 [k1, k2]], by simp [List.append_assoc], ?_⟩
      have := (s1.app s2 (by rw [List.length_append])).over (tmK 2 [k1, k2]) rfl rfl
      rw [List.length_append, List.length_append, Nat.add_assoc, ← List.length_append]
      exact this
theorem key_seg (E : CEnv) : ∀ n, KeySeg (keyP E n)
  | 0 => fun _ _ _ _ _ _ _ h => by cases h
  | n + 1 => by
    intro ws out mod k ws' out' mod' h
    cases ws with
    | nil => cases h
    | cons t ts =>
      obtain ⟨kd, tx, kids⟩ := t
      unfold keyP at h
      split at h
      · unfold listP at h
        split at h
        · cases h
        · rename_i k1 out1 mod1 h1
          have h1 : wholeP (keyP E n) n kids (out ++ []) mod [] = some (k1, out1, mod1) := by rw [List.append_nil]; exact h1
          obtain ⟨new, h2, h3, _⟩ := whole_seg (key_seg E n) out n kids [] mod [] k1 out1 mod1 (Seg.nil _) h1
          simp only [Option.some.injEq, Prod.mk.injEq] at h
          obtain ⟨rfl, _, rfl, _⟩ := h
          exact ⟨new, h2, h3⟩
      · split at h
        · cases h
        · split at h
          · exact place_seg E h
          · split at h
            · cases h
            · rename_i a ha
              have ho := askOf_ok ha
              cases a with
              | not =>
                unfold askP at h
                exact not_seg (fun k1 ws1 out1 mod1 h1 => key_seg E n _ _ _ _ _ _ _ h1) h
              | or =>
                unfold askP at h
                exact or_seg (key_seg E n) _ _ _ _ _ _ _ h
              | all => exact step_seg E .all _ _ _ _ _ _ _ ho h
              | keyword => exact step_seg E .keyword _ _ _ _ _ _ _ ho h
              | on => exact step_seg E .on _ _ _ _ _ _ _ ho h
              | header => exact step_seg E .header _ _ _ _ _ _ _ ho h
              | uid => exact step_seg E .uid _ _ _ _ _ _ _ ho h
              | modseq => exact step_seg E .modseq ts out mod k ws' out' mod' ho h
              | time q => exact step_seg E (.time q) _ _ _ _ _ _ _ ho h
              | counts q m => exact step_seg E (.counts q m) _ _ _ _ _ _ _ ho h
              | says q => exact step_seg E (.says q) _ _ _ _ _ _ _ ho h
              | head q => exact step_seg E (.head q) _ _ _ _ _ _ _ ho h
              | has q => exact step_seg E (.has q) _ _ _ _ _ _ _ ho h
              | un q => exact step_seg E (.un q) _ _ _ _ _ _ _ ho h

/-- The kids counted. -/
theorem kidsGo_some (i : Nat) : ∀ (ks c : List Int), i ≤ c.length → (∀ k ∈ ks, 0 ≤ k ∧ k < i) → ∃ c', kidsGo i ks c = some c' ∧ c'.length = c.length ∧ ∀ j : Nat, j < c.length → c'.getD j 0 = c.getD j 0 + (ks.count (j : Int) : Nat)
  | [], c, _, _ => ⟨c, rfl, rfl, fun j _ => by simp⟩
  | k :: ks, c, hi, h => by
    have hk := h k (by simp)
    unfold kidsGo
    rw [if_neg (by omega)]
    obtain ⟨c', h1, h2, h3⟩ := kidsGo_some i ks (c.set k.toNat (c.getD k.toNat 0 + 1)) (by simpa using hi) (fun x hx => h x (by simp [hx]))
    refine ⟨c', h1, by simpa using h2, fun j hj => ?_⟩
    have h4 := h3 j (by simpa using hj)
    rw [h4, List.count_cons]
    by_cases hjk : k.toNat = j
    · have e : k = (j : Int) := by omega
      subst hjk
      have hb : (k == ((k.toNat : Nat) : Int)) = true := by rw [beq_iff_eq]; exact e
      rw [hb]
      simp only [List.getD_eq_getElem?_getD, List.getElem?_set_self hj, Option.getD_some, if_true]
      omega
    · have e : (k == (j : Int)) = false := by rw [beq_eq_false_iff_ne]; omega
      rw [e]
      simp only [List.getD_eq_getElem?_getD, List.getElem?_set_ne hjk]
      simp
theorem rightGo_some : ∀ (ts : Out) (i : Nat) (c : List Int), i + ts.length ≤ c.length → (∀ p (h : p < ts.length), ∀ k ∈ ts[p].kids, 0 ≤ k ∧ k < (i : Int) + p) → (∀ t ∈ ts, kindOk t.kind = true) → ∃ c', rightGo i ts c = some c' ∧ c'.length = c.length ∧ ∀ j : Nat, j < c.length → c'.getD j 0 = c.getD j 0 + (cntK ts (j : Int) : Nat)
  | [], i, c, _, _, _ => ⟨c, rfl, rfl, fun j _ => by simp [cntK]⟩
  | t :: ts, i, c, hl, h, hk => by
    have hkt := hk t (by simp)
    have hkr : 1 ≤ t.kind ∧ t.kind ≤ 16 := by
      simp only [kindOk, Bool.or_eq_true, beq_iff_eq] at hkt
      omega
    simp only [List.length_cons] at hl
    obtain ⟨c1, h1, h2, h3⟩ := kidsGo_some i t.kids c (by omega) (fun k hx => by have := h 0 (by simp) k hx; simpa using this)
    obtain ⟨c2, h4, h5, h6⟩ := rightGo_some ts (i + 1) c1 (by rw [h2]; omega) (fun p hp k hx => by have := h (p + 1) (by simpa using hp) k hx; omega) (fun x hx => hk x (by simp [hx]))
    refine ⟨c2, ?_, by rw [h5, h2], fun j hj => ?_⟩
    · unfold rightGo
      rw [if_neg (by omega), h1]
      exact h4
    · rw [h6 j (by rw [h2]; exact hj), h3 j hj, cntK_cons]
      omega
/-- A whole tree is a right filter. -/
theorem seg_right {l : Out} (h : Seg 0 l [(l.length : Int) - 1]) (hl : l.length ≤ 40) : rightP l = true := by
  unfold rightP
  rw [if_neg (by omega)]
  obtain ⟨c, h1, h2, h3⟩ := rightGo_some l 0 (List.replicate l.length 0) (by simp) (fun p hp k hk => by have := h.low p hp k hk; omega) h.kind
  rw [h1]
  simp only [List.length_replicate] at h2 h3
  show c.dropLast.all (· == 1) = true
  rw [List.all_eq_true]
  intro x hx
  obtain ⟨j, hj, rfl⟩ := List.getElem_of_mem hx
  rw [List.length_dropLast, h2] at hj
  rw [List.getElem_dropLast]
  have h4 := h3 j (by omega)
  have h5 := h.one j (by omega)
  have h6 : ([(l.length : Int) - 1].count (((0 : Nat) : Int) + j)) = 0 := by
    rw [List.count_eq_zero, List.mem_singleton]
    omega
  rw [h6] at h5
  have e0 : (((0 : Nat) : Int) + (j : Int)) = j := by omega
  rw [e0] at h5
  rw [List.getD_eq_getElem?_getD, List.getElem?_eq_getElem (by omega)] at h4
  simp only [Option.getD_some, List.getD_eq_getElem?_getD, List.getElem?_replicate] at h4
  rw [if_pos (by omega)] at h4
  simp only [Option.getD_some] at h4
  rw [beq_iff_eq, h4]
  omega
theorem seg_good {l : Out} {r : List Int} (h : Seg 0 l r) : goodUF l = true := by
  unfold goodUF
  rw [List.all_eq_true]
  intro i hi
  have hi := List.mem_range.1 hi
  rw [List.getElem?_eq_getElem hi]
  show goodU i l[i] = true
  have h1 := h.kind l[i] (List.getElem_mem hi)
  have h2 := h.low i hi
  unfold goodU
  rw [Bool.and_eq_true]
  constructor
  · simp only [kindOk, Bool.or_eq_true, beq_iff_eq] at h1 ⊢
    omega
  · rw [List.all_eq_true]
    intro k hk
    have := h2 k hk
    simp only [Bool.and_eq_true, decide_eq_true_eq]
    omega
theorem nodup_le : ∀ (n : Nat) (l : List Int), l.Nodup → (∀ x ∈ l, 0 ≤ x ∧ x < n) → l.length ≤ n
  | 0, l, _, h => by
    cases l with
    | nil => simp
    | cons a r =>
      have := h a (by simp)
      omega
  | n + 1, l, hn, h => by
    have h1 := nodup_le n (l.erase (n : Int)) (hn.erase _) (fun x hx => by
      have h2 := h x (List.mem_of_mem_erase hx)
      have h3 : x ≠ (n : Int) := by
        intro e
        subst e
        exact absurd hx hn.not_mem_erase
      omega)
    by_cases hm : (n : Int) ∈ l
    · rw [List.length_erase_of_mem hm] at h1
      omega
    · rw [List.erase_of_not_mem hm] at h1
      omega
theorem count_flat (l : Out) (t : Tm) (ht : t ∈ l) (i : Int) : t.kids.count i ≤ cntK l i := by
  induction l with
  | nil => simp at ht
  | cons a r ih =>
    rw [cntK_cons]
    rcases List.mem_cons.1 ht with rfl | h
    · omega
    · have := ih h
      omega
theorem seg_kids {l : Out} {r : List Int} (h : Seg 0 l r) (hl : l.length ≤ 1000) : ∀ t ∈ l, t.kids.length ≤ 1000000 := by
  intro t ht
  have h1 := nodup_le l.length t.kids (by
    rw [List.nodup_iff_count]
    intro i
    have h2 := count_flat l t ht i
    by_cases hi : 0 ≤ i ∧ i < l.length
    · have h3 := h.one i.toNat (by omega)
      have e : (((0 : Nat) : Int) + (i.toNat : Nat)) = i := by omega
      rw [e] at h3
      omega
    · have h3 := (h.out i (by omega)).1
      omega) (fun x hx => by have := h.in_ t ht x hx; omega)
  omega

/-- A term's answer hangs on those ahead of it alone. -/
theorem holdsT_ext (e : Em) : ∀ (i n m : Nat) (f g : Out), i < n → i < m → (∀ j, j ≤ i → f[j]? = g[j]?) → (∀ j t, j ≤ i → f[j]? = some t → ∀ k ∈ t.kids, 0 ≤ k ∧ k < (j : Int)) → holdsT e f n i = holdsT e g m i := by
  intro i
  induction i using Nat.strongRecOn with
  | ind i ih =>
    intro n m f g hn hm hfg hk
    obtain ⟨n, rfl⟩ : ∃ q, n = q + 1 := ⟨n - 1, by omega⟩
    obtain ⟨m, rfl⟩ : ∃ q, m = q + 1 := ⟨m - 1, by omega⟩
    have hi := hfg i (Nat.le_refl _)
    cases hft : f[i]? with
    | none =>
      have hgt : g[i]? = none := by rw [← hi, hft]
      show (match f[i]? with | none => false | some t => _) = (match g[i]? with | none => false | some t => _)
      rw [hft, hgt]
    | some t =>
      have hgt : g[i]? = some t := by rw [← hi, hft]
      have hkt := hk i t (Nat.le_refl _) hft
      have hrec : ∀ k ∈ t.kids, holdsT e f n k.toNat = holdsT e g m k.toNat := fun k hkm => by
        have := hkt k hkm
        exact ih k.toNat (by omega) n m f g (by omega) (by omega) (fun j hj => hfg j (by omega)) (fun j t hj => hk j t (by omega))
      have hall : (t.kids.all fun k => holdsT e f n k.toNat) = t.kids.all fun k => holdsT e g m k.toNat := by
        rw [Bool.eq_iff_iff, List.all_eq_true, List.all_eq_true]
        exact ⟨fun h k hk => by rw [← hrec k hk]; exact h k hk, fun h k hk => by rw [hrec k hk]; exact h k hk⟩
      have hany : (t.kids.any fun k => holdsT e f n k.toNat) = t.kids.any fun k => holdsT e g m k.toNat := by
        rw [Bool.eq_iff_iff, List.any_eq_true, List.any_eq_true]
        exact ⟨fun ⟨k, hk, h⟩ => ⟨k, hk, by rw [← hrec k hk]; exact h⟩, fun ⟨k, hk, h⟩ => ⟨k, hk, by rw [hrec k hk]; exact h⟩⟩
      rw [holdsT_succ hft, holdsT_succ hgt, hall, hany]

/-- NOT of a list, and a list. -/
def notT : ByteArray := ⟨#[110, 111, 116]⟩
theorem read_some {E : CEnv} {ws : List WT} (h : (readP E ws).2.2 = 0) : ∃ k out mod, wholeP (keyP E (szL ws)) (szL ws) ws [] false [] = some (k, out, mod) ∧ readP E ws = (out, mod, 0) ∧ out.length ≤ 40 ∧ Seg 0 out [k] ∧ k = (out.length : Int) - 1 := by
  cases hw : wholeP (keyP E (szL ws)) (szL ws) ws [] false [] with
  | none =>
    unfold readP at h
    rw [hw] at h
    simp at h
  | some x =>
    obtain ⟨k, out, mod⟩ := x
    have hw2 : wholeP (keyP E (szL ws)) (szL ws) ws ([] ++ []) false [] = some (k, out, mod) := hw
    obtain ⟨new, h1, h2, h3⟩ := whole_seg (key_seg E _) [] _ _ [] _ _ _ _ _ (Seg.nil _) hw2
    rw [List.nil_append] at h1
    subst h1
    unfold readP at h ⊢
    rw [hw] at h ⊢
    simp only at h ⊢
    by_cases h4 : 40 < out.length
    · rw [if_pos h4] at h
      simp at h
    · rw [if_neg h4]
      exact ⟨k, out, mod, rfl, rfl, by omega, h2, h3⟩
theorem read_bad {E : CEnv} {ws : List WT} (h : (readP E ws).2.2 ≠ 0) : (readP E ws).1 = [] := by
  unfold readP at h ⊢
  split
  · rfl
  · rename_i k out mod hw
    rw [hw] at h
    simp only at h
    split
    · rfl
    · rename_i h4
      rw [if_neg h4] at h
      exact absurd rfl h
theorem read_list {E : CEnv} {ws : List WT} {k : Int} {out : Out} {mod : Bool} (t : ByteArray) (h : wholeP (keyP E (szL ws)) (szL ws) ws [] false [] = some (k, out, mod)) :
    readP E [.mk 3 t ws] = if 40 < out.length + 1 then ([], false, 13) else (out ++ [tmK 1 [k]], mod, 0) := by
  have hz : szL [WT.mk 3 t ws] = szL ws + 1 := by simp [szL, szW]; omega
  have hk : keyP E (szL ws + 1) [.mk 3 t ws] [] false = some (k, [], out, mod) := by
    show (if (3 : Int) = 3 then listP (szL ws) (keyP E (szL ws)) ws [] [] false else _) = _
    rw [if_pos rfl]
    unfold listP
    rw [h]
  have hw : wholeP (keyP E (szL ws + 1)) (szL ws + 1) [.mk 3 t ws] [] false [] = some ((out.length : Int), out ++ [tmK 1 [k]], mod) := by
    show (match keyP E (szL ws + 1) [.mk 3 t ws] [] false with | none => none | some (k, ws', out', mod') => wholeP (keyP E (szL ws + 1)) (szL ws) ws' out' mod' ([] ++ [k])) = _
    rw [hk]
    show wholeP (keyP E (szL ws + 1)) (szL ws) [] out mod [k] = _
    unfold wholeP
    simp
  unfold readP
  rw [hz, hw]
  simp
theorem read_not {E : CEnv} {ws : List WT} {k : Int} {out : Out} {mod : Bool} (t : ByteArray) (h : wholeP (keyP E (szL ws)) (szL ws) ws [] false [] = some (k, out, mod)) :
    readP E [.mk 1 notT [], .mk 3 t ws] = if 40 < out.length + 2 then ([], false, 13) else (out ++ [tmK 3 [k]] ++ [tmK 1 [(out.length : Int)]], mod, 0) := by
  have hz : szL [WT.mk 1 notT [], WT.mk 3 t ws] = szL ws + 1 + 1 := by simp [szL, szW]; omega
  have hk : keyP E (szL ws + 1) [.mk 3 t ws] [] false = some (k, [], out, mod) := by
    show (if (3 : Int) = 3 then listP (szL ws) (keyP E (szL ws)) ws [] [] false else _) = _
    rw [if_pos rfl]
    unfold listP
    rw [h]
  have ha : askOf (lowS notT) = some .not := rfl
  have hp : isPlace notT = false := by decide
  have hk2 : keyP E (szL ws + 1 + 1) [.mk 1 notT [], .mk 3 t ws] [] false = some ((out.length : Int), [], out ++ [tmK 3 [k]], mod) := by
    show (if (1 : Int) = 3 then _ else if (1 : Int) ≠ 1 then none else if isPlace notT = true then _ else match askOf (lowS notT) with | none => none | some a => askP E (keyP E (szL ws + 1)) a [.mk 3 t ws] [] false) = _
    rw [if_neg (by decide), if_neg (by decide), hp, if_neg (by decide), ha]
    show notP (keyP E (szL ws + 1) [.mk 3 t ws] [] false) = _
    rw [hk]
    rfl
  have hw : wholeP (keyP E (szL ws + 1 + 1)) (szL ws + 1 + 1) [.mk 1 notT [], .mk 3 t ws] [] false [] = some (((out ++ [tmK 3 [k]]).length : Int), out ++ [tmK 3 [k]] ++ [tmK 1 [(out.length : Int)]], mod) := by
    show (match keyP E (szL ws + 1 + 1) [.mk 1 notT [], .mk 3 t ws] [] false with | none => none | some (k, ws', out', mod') => wholeP (keyP E (szL ws + 1 + 1)) (szL ws + 1) ws' out' mod' ([] ++ [k])) = _
    rw [hk2]
    show wholeP (keyP E (szL ws + 1 + 1)) (szL ws + 1) [] (out ++ [tmK 3 [k]]) mod [(out.length : Int)] = _
    unfold wholeP
    simp
  unfold readP
  rw [hz, hw]
  simp

/-- What the law asks of the three filters. -/
theorem rights_law {k : Int} {out : Out} (hs : Seg 0 out [k]) (hk : k = (out.length : Int) - 1) (hl : out.length + 2 ≤ 40) (e : Em) :
    rightP out = true ∧ rightP (out ++ [tmK 3 [k]] ++ [tmK 1 [(out.length : Int)]]) = true ∧ HoldsT e (out ++ [tmK 3 [k]] ++ [tmK 1 [(out.length : Int)]]) = !(HoldsT e out) ∧ HoldsT e (out ++ [tmK 1 [k]]) = HoldsT e out ∧
      goodUF out = true ∧ goodUF (out ++ [tmK 3 [k]] ++ [tmK 1 [(out.length : Int)]]) = true ∧ goodUF (out ++ [tmK 1 [k]]) = true ∧
      (∀ t ∈ out, t.kids.length ≤ 1000000) ∧ (∀ t ∈ out ++ [tmK 3 [k]] ++ [tmK 1 [(out.length : Int)]], t.kids.length ≤ 1000000) ∧ (∀ t ∈ out ++ [tmK 1 [k]], t.kids.length ≤ 1000000) := by
  have hpos : 0 < out.length := by
    have := hs.rt k (by simp)
    omega
  have hs1 : Seg 0 (out ++ [tmK 1 [k]]) [((0 + out.length : Nat) : Int)] := hs.over _ rfl rfl
  have hs2 : Seg 0 (out ++ [tmK 3 [k]]) [((0 + out.length : Nat) : Int)] := hs.over _ rfl rfl
  have hs3 : Seg 0 (out ++ [tmK 3 [k]] ++ [tmK 1 [(out.length : Int)]]) [((0 + (out ++ [tmK 3 [k]]).length : Nat) : Int)] := hs2.over _ (by simp [tmK]) rfl
  have hr : rightP out = true := seg_right (by rw [← hk]; exact hs) (by omega)
  have hr1 : rightP (out ++ [tmK 1 [k]]) = true := seg_right (by simpa using hs1) (by simp; omega)
  have hr3 : rightP (out ++ [tmK 3 [k]] ++ [tmK 1 [(out.length : Int)]]) = true := seg_right (by
    have e : ((out ++ [tmK 3 [k]] ++ [tmK 1 [(out.length : Int)]]).length : Int) - 1 = ((0 + (out ++ [tmK 3 [k]]).length : Nat) : Int) := by simp; omega
    rw [e]
    exact hs3) (by simp; omega)
  have hkn : k.toNat = out.length - 1 := by omega
  have hlow : ∀ j t, j ≤ out.length - 1 → out[j]? = some t → ∀ q ∈ t.kids, 0 ≤ q ∧ q < (j : Int) := fun j t hj ht q hq => by
    have hj2 : j < out.length := by omega
    rw [List.getElem?_eq_getElem hj2] at ht
    injection ht with ht
    subst ht
    have := hs.low j hj2 q hq
    omega
  have hext1 : ∀ n g, out.length - 1 < n → (∀ j, j ≤ out.length - 1 → out[j]? = g[j]?) → holdsT e g n (out.length - 1) = holdsT e out out.length (out.length - 1) := fun n g hn hg => (holdsT_ext e _ _ _ _ _ (by omega) hn hg hlow).symm
  have hO : HoldsT e out = holdsT e out out.length (out.length - 1) := by
    unfold HoldsT
    rw [hr, Bool.true_and, decide_eq_false (by omega), Bool.false_or]
  refine ⟨hr, hr3, ?_, ?_, seg_good hs, seg_good hs3, seg_good hs1, seg_kids hs (by omega), seg_kids hs3 (by simp; omega), seg_kids hs1 (by simp; omega)⟩
  · have e1 : (out ++ [tmK 3 [k]] ++ [tmK 1 [(out.length : Int)]]).length = out.length + 1 + 1 := by simp
    unfold HoldsT
    rw [hr3, Bool.true_and, e1, decide_eq_false (by omega), Bool.false_or, hr, Bool.true_and, decide_eq_false (by omega : ¬ out.length = 0), Bool.false_or]
    rw [show out.length + 1 + 1 - 1 = out.length + 1 from rfl]
    have g1 : (out ++ [tmK 3 [k]] ++ [tmK 1 [(out.length : Int)]])[out.length + 1]? = some (tmK 1 [(out.length : Int)]) := by
      rw [List.getElem?_append_right (by simp)]
      simp
    have g2 : (out ++ [tmK 3 [k]] ++ [tmK 1 [(out.length : Int)]])[out.length]? = some (tmK 3 [k]) := by
      rw [List.getElem?_append_left (by simp), List.getElem?_append_right (Nat.le_refl _)]
      simp
    rw [holdsT_and g1]
    show (holdsT e _ (out.length + 1) (out.length : Int).toNat && true) = _
    rw [Int.toNat_natCast, Bool.and_true, holdsT_not g2]
    show (!(holdsT e _ out.length k.toNat || false)) = _
    rw [Bool.or_false, hkn, hext1 out.length _ (by omega) (fun j hj => by rw [List.getElem?_append_left (by simp; omega), List.getElem?_append_left (by omega)])]
  · have e1 : (out ++ [tmK 1 [k]]).length = out.length + 1 := by simp
    unfold HoldsT
    rw [hr1, Bool.true_and, e1, decide_eq_false (by omega), Bool.false_or, hr, Bool.true_and, decide_eq_false (by omega : ¬ out.length = 0), Bool.false_or]
    rw [show out.length + 1 - 1 = out.length from rfl]
    have g1 : (out ++ [tmK 1 [k]])[out.length]? = some (tmK 1 [k]) := by
      rw [List.getElem?_append_right (Nat.le_refl _)]
      simp
    rw [holdsT_and g1]
    show (holdsT e _ out.length k.toNat && true) = _
    rw [Bool.and_true, hkn, hext1 out.length _ (by omega) (fun j hj => by rw [List.getElem?_append_left (by omega)])]

end Go.Proofs.YtnfabgbidkddhaaGreatDoor

namespace Go.Proofs.YtnfabgbidkddhaaGreatDoor
open Go.RowKit
attribute [local go_sem ↓] Go.wp_at_zero Go.wp_at_succ

mutual
def greatW : WT → Nat → Bool | .mk _ t l, d => decide (1100 < t.size) || (decide (60 < l.length) || (decide (20 < d + 1) || greatA l (d + 1)))
def greatA : List WT → Nat → Bool
  | [], _ => false
  | t :: ts, d => greatW t d || greatA ts d
end
/-- More than is gone through? -/
def greatP (l : List WT) (d : Nat) : Bool := decide (60 < l.length) || (decide (20 < d) || greatA l d)
theorem greatA_any : ∀ (l : List WT) (d : Nat), greatA l d = l.any fun t => greatW t d
  | [], _ => by simp [greatA]
  | t :: ts, d => by rw [greatA, greatA_any ts d, List.any_cons]
theorem greatW_eq (t : WT) (d : Nat) : greatW t d = (decide (1100 < t.text.size) || greatP t.kids (d + 1)) := by
  cases t
  rw [greatW]
  rfl
mutual
theorem okW_of : ∀ (t : WT) (d : Nat), greatW t d = false → okW t
  | .mk k t l, d, h => by
    rw [greatW] at h
    simp only [Bool.or_eq_false_iff, decide_eq_false_iff_not] at h
    unfold okW
    exact ⟨by omega, okL_of l (d + 1) h.2.2.2⟩
theorem okL_of : ∀ (l : List WT) (d : Nat), greatA l d = false → okL l
  | [], _, _ => by unfold okL; trivial
  | t :: ts, d, h => by
    rw [greatA, Bool.or_eq_false_iff] at h
    unfold okL
    exact ⟨okW_of t d h.1, okL_of ts d h.2⟩
end
theorem great_ok {l : List WT} {d : Nat} (h : greatP l d = false) : okL l := by
  unfold greatP at h
  simp only [Bool.or_eq_false_iff] at h
  exact okL_of l d h.2.2
theorem szL_mem : ∀ (l : List WT) (t : WT), t ∈ l → szL t.kids + 1 ≤ szL l
  | a :: r, t, h => by
    rw [szL]
    rcases List.mem_cons.1 h with rfl | h
    · cases t
      simp only [szW, WT.kids]
      omega
    · have := szL_mem r t h
      omega

theorem CellsAt.get {w : World} : ∀ (l : List WT) (xs : List Value), CellsAt w l xs → ∀ i (h : i < l.length), ∃ u, xs[i * 3]? = some (.int .i64 l[i].kind) ∧ xs[i * 3 + 1]? = some (.string l[i].text) ∧ xs[i * 3 + 2]? = some u ∧ WsAt w u l[i].kids
  | t :: ts, xs, h, 0, _ => by
    unfold CellsAt at h
    obtain ⟨u, rest, rfl, h1, _⟩ := h
    refine ⟨u, by simp, by simp, by simp, ?_⟩
    cases t
    unfold WAt at h1
    exact h1
  | t :: ts, xs, h, i + 1, hi => by
    unfold CellsAt at h
    obtain ⟨u, rest, rfl, _, h2⟩ := h
    obtain ⟨u', a, b, c, d⟩ := CellsAt.get ts rest h2 i (by simpa using hi)
    refine ⟨u', ?_, ?_, ?_, by simpa using d⟩
    · rw [show (i + 1) * 3 = i * 3 + 3 by omega]; simpa using a
    · rw [show (i + 1) * 3 + 1 = (i * 3 + 1) + 3 by omega]; simpa using b
    · rw [show (i + 1) * 3 + 2 = (i * 3 + 2) + 3 by omega]; simpa using c
theorem WsAt.at_ {w : World} {v : Value} {ws : List WT} (h : WsAt w v ws) (i : Nat) (hi : i < ws.length) : ∃ b off cap u, v = .slice (some ⟨b, off, none⟩) ws.length cap ∧ b < w.heap.size ∧
    w.cell? ⟨b, off + i * 3, none⟩ = some (.int .i64 ws[i].kind) ∧ w.cell? ⟨b, off + i * 3 + 1, none⟩ = some (.string ws[i].text) ∧ w.cell? ⟨b, off + i * 3 + 2, none⟩ = some u ∧ WsAt w u ws[i].kids := by
  obtain ⟨xs, h1, h2⟩ := h
  obtain ⟨u, a, b', c, d⟩ := CellsAt.get ws xs h2 i hi
  obtain ⟨b, off, cap, hv, _, _, hlt, _, hat⟩ := h1.at_ (by omega)
  exact ⟨b, off, cap, u, hv, hlt, (hat (i * 3) (by omega)).trans a, (hat (i * 3 + 1) (by omega)).trans b', (hat (i * 3 + 2) (by omega)).trans c, d⟩

set_option maxRecDepth 100000 in
set_option maxHeartbeats 2000000 in
theorem great_any : ∀ (N : Nat) (ws : List WT), szL ws ≤ N → ∀ (w : World) (v : Value) (d : Nat), d ≤ 1000 → WsAt w v ws → Calls Tryz.prog 8 #[v, .int .i64 (d : Nat)] w fun e w' => e = .returned (.bool (greatP ws d)) ∧ w = w' := by
  intro N
  induction N using Nat.strongRecOn with
  | ind N ih =>
    intro ws hN w v d hd hv
    have hrec : ∀ (i : Nat) (hi : i < ws.length) (u : Value), ¬ 20 < d → WsAt w u ws[i].kids → Calls Tryz.prog 8 #[u, .int .i64 ((d : Int) + 1)] w fun e w' => e = .returned (.bool (greatP ws[i].kids (d + 1))) ∧ w = w' := fun i hi u h20 hu => by
      have hz := szL_mem ws ws[i] (List.getElem_mem hi)
      exact ih (szL ws[i].kids) (by omega) ws[i].kids (Nat.le_refl _) w u (d + 1) (by omega) hu
    obtain ⟨ans, hans⟩ : ∃ ans, greatP ws d = ans := ⟨_, rfl⟩
    rw [hans]
    obtain ⟨n, hn⟩ : ∃ n, ws.length = n := ⟨_, rfl⟩
    obtain ⟨A, cap, hvf, hc1, hc2⟩ := hv.form
    rw [hn] at hvf hc1
    have hmb : n ≤ 9223372036854775807 := by
      unfold maxLen at hc2
      omega
    subst hvf
    have HV := Lib.hid hv
    have HN := Lib.hid hn
    have HR := Lib.hid hrec
    unfold greatP at hans
    rw [hn] at hans
    clear ih hv hrec hN hn
    by_cases h60 : 60 < n
    · have ha : ans = true := by rw [← hans]; simp [h60]
      subst ha
      clear hans
      go_enter Tryz.func8, Tryz.ntmps8
      go_wp2
      go_ret
      exact ⟨rfl, rfl⟩
    by_cases h20 : 20 < d
    · have ha : ans = true := by rw [← hans]; simp [h20]
      subst ha
      clear hans
      go_enter Tryz.func8, Tryz.ntmps8
      go_wp2
      go_ret
      exact ⟨rfl, rfl⟩
    rw [decide_eq_false h60, decide_eq_false h20, Bool.false_or, Bool.false_or, greatA_any] at hans
    have HANS := Lib.hid hans
    clear hans
    go_enter Tryz.func8, Tryz.ntmps8
    go_wp2
    go_loop [5] (fun i => ∃ k : Nat, k ≤ n ∧ i = .int .i64 k ∧ Hid ((ws.take k).any (fun t => greatW t d) = false)) (fun i => n - (intOf i).toNat)
    case atStart => exact ⟨0, Nat.zero_le _, rfl, Lib.hid rfl⟩
    case round =>
      obtain ⟨k, hk, rfl, HA⟩ := hrel
      by_cases hlt : k < n
      · have hke : k < ws.length := by rw [HN.out]; exact hlt
        obtain ⟨b, off, cap2, u, hva, _, _, d1, d2, hu⟩ := HV.out.at_ k hke
        injection hva with hva1 hva2 hva3
        subst hva1
        clear hva2 hva3
        have hc := HR.out k hke u h20 hu
        have hst := any_take ws (fun t => greatW t d) k hke HA.out
        have hmem : ws[k] ∈ ws := List.getElem_mem hke
        obtain ⟨t, ht⟩ : ∃ t, ws[k] = t := ⟨_, rfl⟩
        rw [ht] at d1 hc hst hmem
        rw [greatW_eq] at hst
        have hex : (decide (1100 < t.text.size) || greatP t.kids (d + 1)) = true → ans = true := fun h => by
          rw [← HANS.out, List.any_eq_true]
          exact ⟨t, hmem, by rw [greatW_eq]; exact h⟩
        generalize t.text = tx at d1 hst hex
        generalize greatP t.kids (d + 1) = g at hc hst hex
        clear hu ht hmem
        by_cases h11 : 1100 < tx.size
        · obtain rfl := hex (by simp [h11])
          clear hst hex hc
          go_wp2
          go_ret
          exact ⟨rfl, rfl⟩
        · rw [decide_eq_false h11, Bool.false_or] at hst hex
          cases g with
          | true =>
            obtain rfl := hex rfl
            clear hst hex
            go_wp2_with (first
              | (go_at_call 8; refine hc.mono ?_; rintro e w2 ⟨rfl, rfl⟩)
              | fail)
            go_ret
            exact ⟨rfl, rfl⟩
          | false =>
            have HST := Lib.hid hst
            clear hst hex
            go_wp2_with (first
              | (go_at_call 8; refine hc.mono ?_; rintro e w2 ⟨rfl, rfl⟩)
              | fail)
            go_round
            case rel => exact ⟨k + 1, by omega, by go_num, HST⟩
            case measure => simp [intOf]; omega
      · have hkn : k = n := by omega
        subst hkn
        have hf : ans = false := by
          rw [← HANS.out]
          have h1 := HA.out
          rw [List.take_of_length_le (by rw [HN.out]; exact Nat.le_refl _)] at h1
          exact h1
        subst hf
        go_wp2
        go_ret
        exact ⟨rfl, rfl⟩

/-- What rise tells of numbers. -/
def RiseOk (l : List Int) : Prop := l.length ≤ 200 ∧ ∀ u ∈ l, 1 ≤ u ∧ u ≤ 1099511627776
def RiseOut (w : World) (l : List Int) (e : Ending) (w' : World) : Prop := ∃ r, e = .returned (.bool r) ∧ (r = true → RiseOk l) ∧ Below w.heap.size w w'

set_option maxRecDepth 100000 in
set_option maxHeartbeats 2000000 in
theorem rise_any (w : World) (v : Value) (l : List Int) (hr : RdS w [] 1 v l.length (intC l)) :
    Calls Tryz.prog 9 #[v] w (RiseOut w l) := by
  obtain ⟨n, hn⟩ : ∃ n, l.length = n := ⟨_, rfl⟩
  rw [hn] at hr
  obtain ⟨A, cap, rfl, _, hcap⟩ := hr.form
  have hmb : n ≤ 9223372036854775807 := by
    unfold maxLen at hcap
    omega
  have HR := Lib.hid hr
  have HN := Lib.hid hn
  clear hr hn
  go_enter Tryz.func9, Tryz.ntmps9
  go_wp2
  go_loopw [3] (fun i wr => ∃ k q : Nat, k ≤ n ∧ i = .int .i64 k ∧ Hid (wr = w.drewN q) ∧ Hid (∀ j (h : j < l.length), j < k → 1 ≤ l[j] ∧ l[j] ≤ 1099511627776)) (fun i _ => n - (intOf i).toNat)
  case atStart => exact ⟨0, 0, Nat.zero_le _, rfl, Lib.hid rfl, Lib.hid fun j _ h => by omega⟩
  case round =>
    obtain ⟨k, q, hk, rfl, HQ, HL⟩ := hrel
    obtain rfl := HQ.out
    have HB : Hid (∀ q, Below w.heap.size w (w.drewN q)) := Lib.hid fun _ => ⟨rfl, rfl, rfl, Nat.le_refl _, fun _ _ => rfl⟩
    by_cases hlt : k < n
    · have hke : k < l.length := by rw [HN.out]; exact hlt
      obtain ⟨b, off, cap2, hva, _, _, hbl, _, hat⟩ := HR.out.at_ (by omega)
      injection hva with hva1 hva2 hva3
      subst hva1
      clear hva2 hva3
      have hc := hat k (by omega)
      have hg : (intC l)[k]? = some (.int .i64 l[k]) := by simp [intC, hke]
      rw [hg] at hc
      have hprev : 0 < k → ∃ y, w.cell? ⟨b, off + (k - 1), none⟩ = some (.int .i64 y) := fun h0 => by
        have hc2 := hat (k - 1) (by omega)
        have hk2 : k - 1 < l.length := by omega
        have hg2 : (intC l)[k - 1]? = some (.int .i64 l[k - 1]) := by simp [intC, hk2]
        rw [hg2] at hc2
        exact ⟨_, hc2⟩
      have hnext : 1 ≤ l[k] ∧ l[k] ≤ 1099511627776 → ∀ j (h : j < l.length), j < k + 1 → 1 ≤ l[j] ∧ l[j] ≤ 1099511627776 := fun hx j hj hj2 => by
        by_cases e : j = k
        · subst e
          exact hx
        · exact HL.out j hj (by omega)
      obtain ⟨x, hx⟩ : ∃ x, l[k] = x := ⟨_, rfl⟩
      rw [hx] at hc hnext
      have HNX := Lib.hid hnext
      clear hat hg hx hnext
      by_cases h1 : x < 1
      · have b1 : decide (x < 1) = true := by simpa using h1
        go_upto_region 4 with (fail)
        go_quiet (fail)
        go_wp2
        go_ret
        exact ⟨_, rfl, fun h => by simp at h, HB.out _⟩
      have b1 : decide (x < 1) = false := by simpa using h1
      by_cases h2 : 1099511627776 < x
      · have b2 : decide (1099511627776 < x) = true := by simpa using h2
        go_upto_region 4 with (fail)
        go_quiet (fail)
        go_wp2
        go_ret
        exact ⟨_, rfl, fun h => by simp at h, HB.out _⟩
      have b2 : decide (1099511627776 < x) = false := by simpa using h2
      by_cases h0 : k = 0
      · have b3 : decide (0 < k) = false := by simp; omega
        clear h0 hprev
        go_upto_region 4 with (fail)
        go_quiet (fail)
        go_wp2
        refine ⟨?_, by simp [intOf]; omega⟩
        have HNX2 := Lib.hid (HNX.out ⟨by omega, by omega⟩)
        first | exact ⟨k + 1, _, by omega, by go_num, Lib.hid rfl, HNX2⟩ | ((repeat apply Exists.intro); exact ⟨⟨k + 1, _, by omega, by go_num, Lib.hid rfl, HNX2⟩, rfl⟩)
      obtain ⟨y, hy⟩ := hprev (by omega)
      have b3 : decide (0 < k) = true := by simp; omega
      have i1 : (0 : Int) ≤ (k : Int) - 1 := by omega
      have i2 : ((k : Int) - 1).toNat = k - 1 := by omega
      have i3 : (k : Int) - 1 < n := by omega
      have i4 : wrap64 ((k : Int) - 1) = (k : Int) - 1 := by unfold wrap64; omega
      by_cases h3 : x ≤ y
      · have b4 : decide (x ≤ y) = true := by simpa using h3
        go_upto_region 4 with (fail)
        go_quiet (fail)
        go_wp2
        go_ret
        exact ⟨_, rfl, fun h => by simp at h, HB.out _⟩
      · have b4 : decide (x ≤ y) = false := by simpa using h3
        go_upto_region 4 with (fail)
        go_quiet (fail)
        go_wp2
        refine ⟨?_, by simp [intOf]; omega⟩
        have HNX2 := Lib.hid (HNX.out ⟨by omega, by omega⟩)
        first | exact ⟨k + 1, _, by omega, by go_num, Lib.hid rfl, HNX2⟩ | ((repeat apply Exists.intro); exact ⟨⟨k + 1, _, by omega, by go_num, Lib.hid rfl, HNX2⟩, rfl⟩)
    · have hkn : k = n := by omega
      subst hkn
      go_wp2
      go_ret
      refine ⟨_, rfl, fun h => ⟨?_, fun u hu => ?_⟩, HB.out _⟩
      · rw [HN.out]
        have h2 : (k : Int) ≤ 200 := by simpa using h
        omega
      · obtain ⟨j, hj, rfl⟩ := List.getElem_of_mem hu
        exact HL.out j hj (by rw [← HN.out]; exact hj)

end Go.Proofs.YtnfabgbidkddhaaGreatDoor

namespace Go.Proofs.YtnfabgbidkddhaaGreatDoor
open Go.RowKit

def SmT (t : Tm) : Prop := t.text.size ≤ 4294967280 ∧ t.name.size ≤ 4294967280
/-- What a key puts is short. -/
def KeySm (f : List WT → Out → Bool → Res) : Prop := ∀ ws out mod k ws' out' mod', okL ws → (∀ t ∈ out, SmT t) → f ws out mod = some (k, ws', out', mod') → okL ws' ∧ ∀ t ∈ out', SmT t
theorem word_sm {ws : List WT} {s : ByteArray} {r : List WT} (h : wordP ws = some (s, r)) (hok : okL ws) : s.size ≤ 1100 ∧ okL r := by
  cases ws with
  | nil => cases h
  | cons t ts =>
    obtain ⟨k, x, l⟩ := t
    have h : (if k = 3 then none else some (x, ts)) = some (s, r) := h
    unfold okL okW at hok
    split at h
    · cases h
    · injection h with h
      injection h with h1 h2
      subst h1 h2
      exact ⟨hok.1.1, hok.2⟩
theorem num_sm {ws : List WT} {n : Int} {r : List WT} (h : numP ws = some (n, r)) (hok : okL ws) : okL r := by
  unfold numP at h
  split at h
  · cases h
  · rename_i s r2 hw
    split at h
    · simp only [Option.some.injEq, Prod.mk.injEq] at h
      obtain ⟨_, rfl⟩ := h
      exact (word_sm hw hok).2
    · cases h
theorem day_sm {ws : List WT} {n : Int} {r : List WT} (h : dayP ws = some (n, r)) (hok : okL ws) : okL r := by
  unfold dayP at h
  split at h
  · cases h
  · rename_i s r2 hw
    split at h
    · simp only [Option.some.injEq, Prod.mk.injEq] at h
      obtain ⟨_, rfl⟩ := h
      exact (word_sm hw hok).2
    · cases h
theorem put_sm {t : Tm} {ws : List WT} {out : Out} {mod : Bool} {k : Int} {ws' : List WT} {out' : Out} {mod' : Bool} (h : putP t ws out mod = some (k, ws', out', mod')) (hok : okL ws) (ho : ∀ t ∈ out, SmT t) (ht : SmT t) : okL ws' ∧ ∀ t ∈ out', SmT t := by
  unfold putP at h
  simp only [Option.some.injEq, Prod.mk.injEq] at h
  obtain ⟨_, rfl, rfl, _⟩ := h
  refine ⟨hok, fun x hx => ?_⟩
  rcases List.mem_append.1 hx with h | h
  · exact ho x h
  · rw [List.mem_singleton.1 h]
    exact ht
theorem sm_n (k n : Int) : SmT (tmN k n) := ⟨by simp [tmN], by simp [tmN]⟩
theorem sm_k (k : Int) (ks : List Int) : SmT (tmK k ks) := ⟨by simp [tmK], by simp [tmK]⟩
theorem sm_s (n : Int) (s : List Rg) : SmT (tmS n s) := ⟨by simp [tmS], by simp [tmS]⟩
theorem not_sm {r : Res} {k : Int} {ws' : List WT} {out' : Out} {mod' : Bool} (hr : ∀ k ws' out' mod', r = some (k, ws', out', mod') → okL ws' ∧ ∀ t ∈ out', SmT t) (h : notP r = some (k, ws', out', mod')) : okL ws' ∧ ∀ t ∈ out', SmT t := by
  cases r with
  | none => simp [notP] at h
  | some x =>
    obtain ⟨k1, ws1, out1, mod1⟩ := x
    obtain ⟨h1, h2⟩ := hr _ _ _ _ rfl
    exact put_sm h h1 h2 (sm_k _ _)
def askSm : Ask → Bool
  | .head k => decide (k.size ≤ 100)
  | .has k => decide (k.size ≤ 100)
  | .un a => askSm a
  | _ => true
theorem askOf_sm {t : ByteArray} {a : Ask} (h : askOf t = some a) : askSm a = true := by
  unfold askOf getS at h
  rw [Option.map_eq_some_iff] at h
  obtain ⟨p, hp, rfl⟩ := h
  have hm := List.mem_of_find?_eq_some hp
  have hall : askTab.all (fun p => askSm p.2) = true := by decide
  exact List.all_eq_true.1 hall p hm
theorem keyB_sm {s : ByteArray} (h : s.size ≤ 1100) : (keyB s).size ≤ 2000 := by
  have hl : (lowL s.data.toList).length = s.size := by
    rw [← List.size_toArray]
    exact lowS_size s
  unfold keyB keyOf
  split
  · simp only [ByteArray.size, List.size_toArray, List.length_cons, List.length_tail]
    omega
  · split
    · simp only [ByteArray.size, List.size_toArray]
      omega
    · simp [ByteArray.size]
theorem step_sm (E : CEnv) : ∀ (a : Ask) (ws : List WT) (out : Out) (mod : Bool) (k : Int) (ws' : List WT) (out' : Out) (mod' : Bool), askSm a = true → okL ws → (∀ t ∈ out, SmT t) → stepA E a ws out mod = some (k, ws', out', mod') → okL ws' ∧ ∀ t ∈ out', SmT t
  | .all, ws, out, mod, k, ws', out', mod', _, hok, ho, h => put_sm h hok ho (sm_k _ _)
  | .keyword, ws, out, mod, k, ws', out', mod', _, hok, ho, h => by
    unfold stepA at h
    split at h
    · cases h
    · rename_i s r hw
      split at h
      · obtain ⟨h1, h2⟩ := word_sm hw hok
        have h3 := keyB_sm h1
        exact put_sm h h2 ho ⟨by simp only [tmT]; omega, by simp [tmT]⟩
      · cases h
  | .on, ws, out, mod, k, ws', out', mod', _, hok, ho, h => by
    unfold stepA at h
    split at h
    · cases h
    · rename_i n r hd
      simp only [Option.some.injEq, Prod.mk.injEq] at h
      obtain ⟨_, rfl, rfl, _⟩ := h
      refine ⟨day_sm hd hok, fun x hx => ?_⟩
      simp only [List.mem_append, List.mem_singleton] at hx
      rcases hx with ((h | rfl) | rfl) | rfl
      · exact ho x h
      · exact sm_n _ _
      · exact sm_n _ _
      · exact sm_k _ _
  | .header, ws, out, mod, k, ws', out', mod', _, hok, ho, h => by
    unfold stepA at h
    split at h
    · cases h
    · rename_i s r hw
      obtain ⟨h1, h2⟩ := word_sm hw hok
      split at h
      · cases h
      · rename_i s2 r2 hw2
        obtain ⟨h3, h4⟩ := word_sm hw2 h2
        exact put_sm h h4 ho ⟨by simp only [tmT]; omega, by simp only [tmT]; omega⟩
  | .uid, ws, out, mod, k, ws', out', mod', _, hok, ho, h => by
    unfold stepA at h
    split at h
    · cases h
    · rename_i s r hw
      split at h
      · exact put_sm h (word_sm hw hok).2 ho (sm_s _ _)
      · cases h
  | .modseq, ws, out, mod, k, ws', out', mod', _, hok, ho, h => by
    unfold stepA at h
    split at h
    · cases h
    · rename_i n r hd
      exact put_sm h (num_sm hd hok) ho (sm_n _ _)
  | .time q, ws, out, mod, k, ws', out', mod', _, hok, ho, h => by
    unfold stepA at h
    split at h
    · cases h
    · rename_i n r hd
      exact put_sm h (day_sm hd hok) ho (sm_n _ _)
  | .counts q m, ws, out, mod, k, ws', out', mod', _, hok, ho, h => by
    unfold stepA at h
    split at h
    · cases h
    · rename_i n r hd
      exact put_sm h (num_sm hd hok) ho (sm_n _ _)
  | .says q, ws, out, mod, k, ws', out', mod', _, hok, ho, h => by
    unfold stepA at h
    split at h
    · cases h
    · rename_i s r hw
      obtain ⟨h1, h2⟩ := word_sm hw hok
      exact put_sm h h2 ho ⟨by simp only [tmT]; omega, by simp [tmT]⟩
  | .head n, ws, out, mod, k, ws', out', mod', hq, hok, ho, h => by
    unfold stepA at h
    split at h
    · cases h
    · rename_i s r hw
      obtain ⟨h1, h2⟩ := word_sm hw hok
      have hn : n.size ≤ 100 := of_decide_eq_true hq
      exact put_sm h h2 ho ⟨by simp only [tmT]; omega, by simp only [tmT]; omega⟩
  | .has q, ws, out, mod, k, ws', out', mod', hq, hok, ho, h => by
    have hn : q.size ≤ 100 := of_decide_eq_true hq
    exact put_sm h hok ho ⟨by simp only [tmT]; omega, by simp [tmT]⟩
  | .un a, ws, out, mod, k, ws', out', mod', hq, hok, ho, h => by
    unfold stepA at h
    exact not_sm (fun k1 ws1 out1 mod1 h1 => step_sm E a ws out mod k1 ws1 out1 mod1 hq hok ho h1) h
  | .not, _, _, _, _, _, _, _, _, _, _, h => by cases h
  | .or, _, _, _, _, _, _, _, _, _, _, h => by cases h
theorem whole_sm {f : List WT → Out → Bool → Res} (hf : KeySm f) : ∀ (n : Nat) (ws : List WT) (out : Out) (mod : Bool) (kids : List Int) (k : Int) (out' : Out) (mod' : Bool), okL ws → (∀ t ∈ out, SmT t) → wholeP f n ws out mod kids = some (k, out', mod') → ∀ t ∈ out', SmT t
  | n, [], out, mod, kids, k, out', mod', _, ho, h => by
    unfold wholeP at h
    split at h
    · cases h
    · simp only [Option.some.injEq, Prod.mk.injEq] at h
      obtain ⟨_, rfl, _⟩ := h
      intro x hx
      rcases List.mem_append.1 hx with h | h
      · exact ho x h
      · rw [List.mem_singleton.1 h]
        exact sm_k _ _
  | 0, _ :: _, _, _, _, _, _, _, _, _, h => by cases h
  | n + 1, t :: ts, out, mod, kids, k, out', mod', hok, ho, h => by
    unfold wholeP at h
    split at h
    · cases h
    · rename_i k1 ws1 out1 mod1 h1
      obtain ⟨h2, h3⟩ := hf _ _ _ _ _ _ _ hok ho h1
      exact whole_sm hf n ws1 out1 mod1 _ k out' mod' h2 h3 h
theorem key_sm (E : CEnv) : ∀ n, KeySm (keyP E n)
  | 0 => fun _ _ _ _ _ _ _ _ _ h => by cases h
  | n + 1 => by
    intro ws out mod k ws' out' mod' hok ho h
    cases ws with
    | nil => cases h
    | cons t ts =>
      obtain ⟨kd, tx, kids⟩ := t
      have hok2 : okL ts ∧ okL kids := by
        unfold okL okW at hok
        exact ⟨hok.2, hok.1.2⟩
      unfold keyP at h
      split at h
      · unfold listP at h
        split at h
        · cases h
        · rename_i k1 out1 mod1 h1
          have h2 := whole_sm (key_sm E n) n kids out mod [] k1 out1 mod1 hok2.2 ho h1
          simp only [Option.some.injEq, Prod.mk.injEq] at h
          obtain ⟨_, rfl, rfl, _⟩ := h
          exact ⟨hok2.1, h2⟩
      · split at h
        · cases h
        · split at h
          · unfold placeP at h
            split at h
            · exact put_sm h hok2.1 ho (sm_s _ _)
            · cases h
          · split at h
            · cases h
            · rename_i a ha
              have hq := askOf_sm ha
              cases a with
              | not =>
                unfold askP at h
                exact not_sm (fun k1 ws1 out1 mod1 h1 => key_sm E n _ _ _ _ _ _ _ hok2.1 ho h1) h
              | or =>
                have h : orP (keyP E n) ts out mod = some (k, ws', out', mod') := h
                unfold orP at h
                split at h
                · cases h
                · rename_i k1 ws1 out1 mod1 h1
                  obtain ⟨h2, h3⟩ := key_sm E n _ _ _ _ _ _ _ hok2.1 ho h1
                  split at h
                  · cases h
                  · rename_i k2 ws2 out2 mod2 h4
                    obtain ⟨h5, h6⟩ := key_sm E n _ _ _ _ _ _ _ h2 h3 h4
                    exact put_sm h h5 h6 (sm_k _ _)
              | all => exact step_sm E .all _ _ _ _ _ _ _ hq hok2.1 ho h
              | keyword => exact step_sm E .keyword _ _ _ _ _ _ _ hq hok2.1 ho h
              | on => exact step_sm E .on _ _ _ _ _ _ _ hq hok2.1 ho h
              | header => exact step_sm E .header _ _ _ _ _ _ _ hq hok2.1 ho h
              | uid => exact step_sm E .uid _ _ _ _ _ _ _ hq hok2.1 ho h
              | modseq => exact step_sm E .modseq ts out mod k ws' out' mod' hq hok2.1 ho h
              | time q => exact step_sm E (.time q) _ _ _ _ _ _ _ hq hok2.1 ho h
              | counts q m => exact step_sm E (.counts q m) _ _ _ _ _ _ _ hq hok2.1 ho h
              | says q => exact step_sm E (.says q) _ _ _ _ _ _ _ hq hok2.1 ho h
              | head q => exact step_sm E (.head q) _ _ _ _ _ _ _ hq hok2.1 ho h
              | has q => exact step_sm E (.has q) _ _ _ _ _ _ _ hq hok2.1 ho h
              | un q => exact step_sm E (.un q) _ _ _ _ _ _ _ hq hok2.1 ho h
theorem read_sm {E : CEnv} {ws : List WT} (hok : okL ws) {k : Int} {out : Out} {mod : Bool} (h : wholeP (keyP E (szL ws)) (szL ws) ws [] false [] = some (k, out, mod)) : ∀ t ∈ out, SmT t :=
  whole_sm (key_sm E _) _ _ _ _ _ _ _ _ hok (by simp) h
theorem sm_app {l : Out} {t : Tm} (h : ∀ t ∈ l, SmT t) (ht : SmT t) : ∀ x ∈ l ++ [t], SmT x := by
  intro x hx
  rcases List.mem_append.1 hx with h1 | h1
  · exact h x h1
  · rw [List.mem_singleton.1 h1]
    exact ht

/-- One list of words, and a word ahead of it. -/
theorem WsAt.list1 {w : World} {v : Value} {ws : List WT} (e : TypeId) (h : WsAt w v ws) : WsAt (w.alloc (.cells #[.int .i64 3, .string ⟨#[]⟩, v] e)) (.slice (some ⟨w.heap.size, 0, none⟩) 1 1) [.mk 3 ⟨#[]⟩ ws] := by
  have hS : Sl (w.alloc (.cells #[.int .i64 3, .string ⟨#[]⟩, v] e)) e 3 (.slice (some ⟨w.heap.size, 0, none⟩) 1 1) (some w.heap.size) 1 [.int .i64 3, .string ⟨#[]⟩, v] := ⟨rfl, .inr ⟨_, 0, 1, _, rfl, rfl, Blk.new _ _ _, Nat.le_refl _, by decide, by simp, rfl⟩⟩
  refine ⟨_, Sl.reads hS [] (by simp), ?_⟩
  unfold CellsAt
  refine ⟨v, [], rfl, ?_, by unfold CellsAt; rfl⟩
  obtain ⟨xs, h1, h2⟩ := h.below (below_alloc1 w (.cells #[.int .i64 3, .string ⟨#[]⟩, v] e))
  unfold WAt
  exact ⟨xs, h1, h2⟩
theorem WsAt.not2 {w : World} {v : Value} {ws : List WT} (e : TypeId) (h : WsAt w v ws) : WsAt (w.alloc (.cells #[.int .i64 1, .string notT, .slice none 0 0, .int .i64 3, .string ⟨#[]⟩, v] e)) (.slice (some ⟨w.heap.size, 0, none⟩) 2 2) [.mk 1 notT [], .mk 3 ⟨#[]⟩ ws] := by
  have hS : Sl (w.alloc (.cells #[.int .i64 1, .string notT, .slice none 0 0, .int .i64 3, .string ⟨#[]⟩, v] e)) e 3 (.slice (some ⟨w.heap.size, 0, none⟩) 2 2) (some w.heap.size) 2 [.int .i64 1, .string notT, .slice none 0 0, .int .i64 3, .string ⟨#[]⟩, v] := ⟨rfl, .inr ⟨_, 0, 2, _, rfl, rfl, Blk.new _ _ _, Nat.le_refl _, by decide, by simp, rfl⟩⟩
  refine ⟨_, Sl.reads hS [] (by simp), ?_⟩
  unfold CellsAt
  refine ⟨.slice none 0 0, _, rfl, ?_, ?_⟩
  · unfold WAt
    exact ⟨[], ⟨by simp, .inl ⟨rfl, by simp⟩⟩, by unfold CellsAt; rfl⟩
  · unfold CellsAt
    refine ⟨v, [], rfl, ?_, by unfold CellsAt; rfl⟩
    obtain ⟨xs, h1, h2⟩ := h.below (below_alloc1 w (.cells #[.int .i64 1, .string notT, .slice none 0 0, .int .i64 3, .string ⟨#[]⟩, v] e))
    unfold WAt
    exact ⟨xs, h1, h2⟩
theorem okL_list {ws : List WT} (h : okL ws) : okL [.mk 3 ⟨#[]⟩ ws] ∧ okL [.mk 1 notT [], .mk 3 ⟨#[]⟩ ws] := by
  refine ⟨?_, ?_⟩
  · unfold okL okW
    exact ⟨⟨by decide, h⟩, by unfold okL; trivial⟩
  · unfold okL okW
    refine ⟨⟨by decide, by unfold okL; trivial⟩, ?_⟩
    unfold okL okW
    exact ⟨⟨by decide, h⟩, by unfold okL; trivial⟩
theorem szL_list (ws : List WT) : szL [.mk 3 ⟨#[]⟩ ws] = szL ws + 1 ∧ szL [.mk 1 notT [], .mk 3 ⟨#[]⟩ ws] = szL ws + 2 := by
  simp [szL, szW]
  omega

end Go.Proofs.YtnfabgbidkddhaaGreatDoor
