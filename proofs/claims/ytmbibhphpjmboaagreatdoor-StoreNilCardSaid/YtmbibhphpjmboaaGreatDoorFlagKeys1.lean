/-
  The walk of flag.Keys, and of the laws' small functions over lists of texts.
-/
import Derived.Test.YtmbibhphpjmboaaGreatDoorStrs
import Derived.Test.YtmbibhphpjmboaaGreatDoorRight1
import Derived.Test.YtmbibhphpjmboaaGreatDoorBytes
namespace Go.Proofs.YtmbibhphpjmboaaGreatDoor
open Go.RowKit Go.Sort
attribute [local go_sem ↓] Go.wp_at_zero Go.wp_at_succ

abbrev Texts := List (List UInt8)
/-- No text is longer than any that came in. -/
def Short (l : Texts) : Prop := ∀ s ∈ l, s.length ≤ 140737488351232

set_option maxHeartbeats 400000 in
theorem keysC_any (s : ByteArray) (w : World) (hs : s.size ≤ 140737488351232) :
    Calls Tryz.prog 109 #[.string s] w fun e w' => e = .returned (.bool (!rightL s.data.toList)) ∧ Below w.heap.size w w' := by
  have h := right_any s w hs
  go_enter Tryz.func109, Tryz.ntmps109
  go_wp2_with (go_at_call 110; refine h.mono ?_; rintro e w2 ⟨rfl, hb2⟩)
  go_ret
  exact ⟨rfl, hb2⟩

/-- The place of the first text that is no keyword; below nought: there is none. -/
def badAt : Texts → Nat → Int
  | [], _ => -1
  | s :: r, k => if rightL s = true then badAt r (k + 1) else k
theorem badAt_drop (l : Texts) (k : Nat) (hk : k < l.length) (h : rightL l[k] = true) : badAt (l.drop k) k = badAt (l.drop (k + 1)) (k + 1) := by
  rw [List.drop_eq_getElem_cons hk, badAt, if_pos h]
theorem badAt_here (l : Texts) (k : Nat) (hk : k < l.length) (h : rightL l[k] = false) : badAt (l.drop k) k = k := by
  rw [List.drop_eq_getElem_cons hk, badAt, if_neg (by simp [h])]
theorem badAt_neg : ∀ (l : Texts) (k : Nat), (0 ≤ badAt l k) ↔ l.any (fun s => !rightL s) = true
  | [], k => by simp [badAt]
  | s :: r, k => by
    rw [badAt, List.any_cons]
    by_cases h : rightL s = true
    · rw [if_pos h, h, badAt_neg r (k + 1)]
      simp
    · rw [if_neg h]
      simp [h]

theorem RdS.str {w : World} {S : List Nat} {v : Value} {n : Nat} {l : Texts} (h : RdS w S 1 v n (l.map encStr)) (k : Nat) (hk : k < l.length) : ∃ b off cap, v = .slice (some ⟨b, off, none⟩) n cap ∧ b < w.heap.size ∧ b ∉ S ∧ w.cell? ⟨b, off + k, none⟩ = some (encStr l[k]) := by
  have hn : l.length = n := by have := h.1; simpa using this
  obtain ⟨b, off, cap, hv, _, _, hbl, hbs, hat⟩ := h.at_ (by omega)
  refine ⟨b, off, cap, hv, hbl, hbs, ?_⟩
  rw [hat k (by omega)]
  simp [hk]

set_option maxRecDepth 100000 in
set_option maxHeartbeats 1000000 in
theorem indexS_any (w : World) (v : Value) (n : Nat) (l : Texts) (hn : l.length = n) (hr : RdS w [] 1 v n (l.map encStr)) (hs : Short l) :
    Calls Tryz.prog 160 #[v, .func (.func 109) #[] #[]] w fun e w' => e = .returned (.int .i64 (badAt l 0)) ∧ Below w.heap.size w w' := by
  obtain ⟨A, cap, rfl, _, hcap⟩ := hr.form
  have hmb : n ≤ 9223372036854775807 := by
    unfold maxLen at hcap
    omega
  obtain ⟨ans, hans⟩ : ∃ ans, badAt l 0 = ans := ⟨_, rfl⟩
  rw [hans]
  have HR := Lib.hid hr
  have HN := Lib.hid hn
  have HS := Lib.hid hs
  have HANS : Hid (badAt (l.drop 0) 0 = ans) := Lib.hid (by simpa using hans)
  clear hr hn hs hans
  go_enter Tryz.func160, Tryz.ntmps160
  go_wp2
  go_loopw [8] (fun i wr => ∃ k : Nat, k ≤ n ∧ i = .int .i64 k ∧ Hid (badAt (l.drop k) k = ans) ∧ Hid (Below w.heap.size w wr)) (fun i _ => n - (intOf i).toNat)
  case atStart => exact ⟨0, Nat.zero_le _, rfl, HANS, Lib.hid (Below.refl _ _)⟩
  case round =>
    obtain ⟨k, hk, rfl, HA, HB⟩ := hrel
    by_cases hlt : k < n
    · have hke : k < l.length := by rw [HN.out]; exact hlt
      obtain ⟨b, off, cap2, hva, hbl, _, hat⟩ := HR.out.str k hke
      injection hva with hva1 _ hva3
      subst hva1
      subst hva3
      have d0 : wr.cell? ⟨b, off + k, none⟩ = some (encStr l[k]) := (HB.out.cell (p := ⟨b, off + k, none⟩) hbl).trans hat
      clear hat
      have hsz := HS.out l[k] (List.getElem_mem hke)
      have hstep := badAt_drop l k hke
      have hhere := badAt_here l k hke
      generalize l[k] = s at d0 hsz hstep hhere
      have hc := keysC_any ⟨s.toArray⟩ wr (by show s.toArray.size ≤ _; simpa using hsz)
      simp only at hc
      cases hrt : rightL s
      · rw [hrt] at hc
        have he : ans = (k : Int) := by rw [← HA.out, hhere hrt]
        subst he
        have HB0 := Lib.hid HB.out
        clear hrt hstep hhere hsz HANS
        go_wp2_with (go_at_call 109; refine hc.mono ?_; rintro e w2 ⟨rfl, hb2⟩; have HB2 := Lib.hid (bthen HB0.out hb2); clear hb2 hc)
        go_ret
        exact ⟨rfl, HB2.out⟩
      · rw [hrt] at hc
        have HA2 := Lib.hid ((hstep hrt).symm.trans HA.out)
        have HB0 := Lib.hid HB.out
        clear hrt hstep hhere hsz
        go_wp2_with (go_at_call 109; refine hc.mono ?_; rintro e w2 ⟨rfl, hb2⟩; have HB2 := Lib.hid (bthen HB0.out hb2); clear hb2 hc)
        refine ⟨?_, by simp [intOf]; omega⟩
        first | exact ⟨k + 1, by omega, by go_num, HA2, HB2⟩ | ((repeat apply Exists.intro); exact ⟨⟨k + 1, by omega, by go_num, HA2, HB2⟩, rfl⟩)
    · have hkn : k = n := by omega
      subst hkn
      have he : ans = -1 := by
        rw [← HA.out, List.drop_of_length_le (by rw [HN.out]; exact Nat.le_refl _)]
        rfl
      subst he
      go_wp2
      go_ret
      exact ⟨rfl, HB.out⟩

set_option maxHeartbeats 400000 in
theorem containsS_any (w : World) (v : Value) (n : Nat) (l : Texts) (hn : l.length = n) (hr : RdS w [] 1 v n (l.map encStr)) (hs : Short l) :
    Calls Tryz.prog 108 #[v, .func (.func 109) #[] #[]] w fun e w' => e = .returned (.bool (l.any fun s => !rightL s)) ∧ Below w.heap.size w w' := by
  have h := indexS_any w v n l hn hr hs
  obtain ⟨A, cap, rfl, _, _⟩ := hr.form
  have hneg := badAt_neg l 0
  have hb : decide (0 ≤ badAt l 0) = l.any (fun s => !rightL s) := by
    rw [Bool.eq_iff_iff, decide_eq_true_iff]
    exact hneg
  generalize badAt l 0 = x at h hb
  generalize (l.any fun s => !rightL s) = bb at hb
  have HB := Lib.hid hb
  clear hneg hb hr hs hn
  go_enter Tryz.func108, Tryz.ntmps108
  go_wp2_with (go_at_call 160; refine h.mono ?_; rintro e w2 ⟨rfl, hb2⟩)
  go_ret
  exact ⟨ret_bool HB.out, hb2⟩

/-- Keywords: rising, each once; and the error's number. -/
def keysF (l : Texts) : Texts × Int :=
  if l.any (fun s => !rightL s) = true then ([], 1)
  else if 16 < (Lib.compact (sortB l)).length then ([], 13) else (Lib.compact (sortB l), 0)

set_option maxRecDepth 100000 in
set_option maxHeartbeats 1000000 in
theorem keys_any (w : World) (v : Value) (n : Nat) (l : Texts) (hn : l.length = n) (hnb : n ≤ 1099511627776) (hr : RdS w [] 1 v n (l.map encStr)) (hs : Short l) :
    Calls Tryz.prog 51 #[v] w fun e w' => ∃ A cap hh, e = .returned (.tuple #[.slice A (keysF l).1.length cap, .int .i64 (keysF l).2]) ∧ Sl w' 9 1 (.slice A (keysF l).1.length cap) hh (keysF l).1.length ((keysF l).1.map encStr) ∧ Below w.heap.size w w' ∧ ∀ b, hh = some b → w.heap.size ≤ b := by
  have hc := containsS_any w v n l hn hr hs
  have hcl := fun W (hb : Below w.heap.size w W) => cloneS_any W v n (l.map encStr) (hr.below hb) (encStr_one l) (by omega)
  obtain ⟨A, cap, rfl, _, _⟩ := hr.form
  unfold keysF
  cases hbad : l.any (fun s => !rightL s)
  · rw [hbad] at hc
    rw [if_neg (by decide)]
    have HCL := Lib.hid hcl
    have hso := fun W v h hs => sortS_any W v h n l hs hnb
    have hco := fun W v h hs => compactS_any W v h n (sortB l) hs hnb
    have hle : (Lib.compact (sortB l)).length ≤ n := by
      have := Lib.compact_length_le (sortB l)
      rw [sortB_length] at this
      omega
    generalize Lib.compact (sortB l) = ks at hco hle
    obtain ⟨K, hK⟩ : ∃ K, ks.length = K := ⟨_, rfl⟩
    rw [hK] at hco hle
    have HK := Lib.hid hK
    clear hbad hcl hn hr hs
    by_cases hm : 16 < K
    · rw [if_pos (by rw [hK]; exact hm)]
      clear hK
      go_enter Tryz.func51, Tryz.ntmps51
      go_wp2_with (first
        | (go_at_call 108; refine hc.mono ?_; rintro e w2 ⟨rfl, hb2⟩; have hcl2 := HCL.out _ hb2; have HB2 := Lib.hid hb2; clear hb2 hc)
        | (go_at_call 111; refine hcl2.mono ?_; rintro e w3 ⟨v3, h3, rfl, hs3, hb3, hf3⟩; have HB3 := Lib.hid (bthen HB2.out hb3); have hso3 := hso _ _ _ hs3; have HF3 := Lib.hid hf3; clear hs3 hb3 hf3 hcl2)
        | (go_at_call 112; refine hso3.mono ?_; rintro e w4 ⟨rfl, hs4, hc4⟩; have hco4 := hco _ _ _ hs4; have HC4 := Lib.hid hc4; clear hs4 hc4 hso3)
        | (go_at_call 113; refine hco4.mono ?_; rintro e w5 ⟨v5, rfl, hs5, hc5⟩; obtain ⟨A5, cap5, rfl, _, _⟩ := hs5.form; have HC5 := Lib.hid (HC4.out.trans hc5 (fun i hi => .inl hi)); clear hs5 hc5 hco4)
        | fail)
      go_ret2
      refine ⟨none, 0, none, rfl, Sl.nil _ _ _, ?_, fun b hb => by cases hb⟩
      exact HB3.out.trans (HC5.out.below HB3.out.size fun k hk => Nat.le_trans HB2.out.size (HF3.out k (by simpa using hk)))
    · rw [if_neg (by rw [hK]; exact hm)]
      clear hK
      go_enter Tryz.func51, Tryz.ntmps51
      go_wp2_with (first
        | (go_at_call 108; refine hc.mono ?_; rintro e w2 ⟨rfl, hb2⟩; have hcl2 := HCL.out _ hb2; have HB2 := Lib.hid hb2; clear hb2 hc)
        | (go_at_call 111; refine hcl2.mono ?_; rintro e w3 ⟨v3, h3, rfl, hs3, hb3, hf3⟩; have HB3 := Lib.hid (bthen HB2.out hb3); have hso3 := hso _ _ _ hs3; have HF3 := Lib.hid hf3; clear hs3 hb3 hf3 hcl2)
        | (go_at_call 112; refine hso3.mono ?_; rintro e w4 ⟨rfl, hs4, hc4⟩; have hco4 := hco _ _ _ hs4; have HC4 := Lib.hid hc4; clear hs4 hc4 hso3)
        | (go_at_call 113; refine hco4.mono ?_; rintro e w5 ⟨v5, rfl, hs5, hc5⟩; obtain ⟨A5, cap5, rfl, _, _⟩ := hs5.form; have HC5 := Lib.hid (HC4.out.trans hc5 (fun i hi => .inl hi)); have HS5 := Lib.hid hs5; clear hs5 hc5 hco4)
        | fail)
      go_ret2
      have hk := HK.out
      simp only [hk]
      refine ⟨_, _, _, rfl, HS5.out, ?_, fun b hb => Nat.le_trans HB2.out.size (HF3.out b hb)⟩
      exact HB3.out.trans (HC5.out.below HB3.out.size fun k hk => Nat.le_trans HB2.out.size (HF3.out k (by simpa using hk)))
  · rw [hbad] at hc
    rw [if_pos rfl]
    clear hbad hcl hn hr hs
    go_enter Tryz.func51, Tryz.ntmps51
    go_wp2_with (go_at_call 108; refine hc.mono ?_; rintro e w2 ⟨rfl, hb2⟩)
    go_ret2
    exact ⟨none, 0, none, rfl, Sl.nil _ _ _, hb2, fun b hb => by cases hb⟩

end Go.Proofs.YtmbibhphpjmboaaGreatDoor
