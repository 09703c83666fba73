/-
  The walk of pillarboxlaw15.FlagAll.
-/
import Derived.Test.YtkgpflobbmagaaaFlagList
namespace Go.Proofs.Ytkgpflobbmagaaa
open Go.RowKit Go.Sort
attribute [local go_sem ↓] Go.wp_at_zero Go.wp_at_succ

set_option maxRecDepth 100000 in
set_option maxHeartbeats 4000000 in
theorem flagAll_any (w : World) (s : ByteArray) (v : Value) (n : Nat) (l : Texts) (hs : s.size ≤ 140737488351232) (hn : l.length = n) (hr : RdS w [] 1 v n (l.map encStr)) :
    Calls Try.prog 12 #[.string s, v] w fun e w' => e = .returned (.bool true) ∧ Below w.heap.size w w' := by
  have hAw := fun W => awake15_any W
  have hNu := fun W n => numF_any W n
  have hg := great_any w v n l hn hr
  have hK1 := key_any s w hs
  have hK2 := fun W => refKey_any s W hs
  have hR1 := fun W => right_any s W hs
  have hR2 := fun W => rightKey_any s W hs
  have hF1 := fun W => flag_any s W
  have hF2 := fun W => refFlag_any s W
  obtain ⟨A, cap, rfl, _, _⟩ := hr.form
  by_cases h300 : 300 < s.size
  · clear hr hn
    go_enter Try.func12, Try.ntmps12
    go_wp2_with (first
      | (go_at_call 14; refine (hAw _).mono ?_; rintro e w6 ⟨rfl, hb6⟩; have HB6 := Lib.hid hb6; clear hb6)
      | fail)
    go_ret
    exact ⟨rfl, HB6.out⟩
  · cases hgr : greatL l
    · rw [hgr] at hg
      obtain ⟨hn100, hlen⟩ := not_great hgr
      have hsh : Short l := fun s hs => Nat.le_trans (hlen s hs) (by decide)
      have hY1 := fun W (hb : Below w.heap.size w W) => keys_any W _ n l hn (by omega) (hr.below hb) hsh
      have hY2 := fun W (hb : Below w.heap.size w W) => refKeys_any W _ n l hn (by omega) (hr.below hb) hsh
      have hL1 := fun W (hb : Below w.heap.size w W) => list_any W _ n l hn (by omega) (hr.below hb) hlen
      have hL2 := fun W (hb : Below w.heap.size w W) => refFlags_any W _ n l hn (by omega) (hr.below hb) hlen
      obtain ⟨ks, er, hq⟩ : ∃ ks er, keysF l = (ks, er) := ⟨_, _, rfl⟩
      simp only [hq] at hY1 hY2
      obtain ⟨K, hK⟩ : ∃ K, ks.length = K := ⟨_, rfl⟩
      simp only [hK] at hY1 hY2
      generalize keyOf (lowL s.data.toList) = kk at hK1 hK2
      obtain ⟨kt, kb⟩ := kk
      simp only at hK1 hK2
      generalize rightL s.data.toList = rt at hR1 hR2
      generalize hfo : flagOf s = fo at hF1 hF2
      generalize 40 :: J l n ++ [41] = jl at hL1 hL2
      have HK := Lib.hid hK
      have HY1 := Lib.hid hY1
      have HY2 := Lib.hid hY2
      have HL1 := Lib.hid hL1
      have HL2 := Lib.hid hL2
      clear hr hn hsh hlen hgr hq hK hY1 hY2 hL1 hL2 hfo hn100
      go_enter Try.func12, Try.ntmps12
      go_wp2_with (first
        | (go_at_call 32; refine hg.mono ?_; rintro e w1 ⟨rfl, rfl⟩; clear hg)
        | (go_at_call 15; refine hK1.mono ?_; rintro e w1 ⟨rfl, hb⟩; have HB1 := Lib.hid hb; clear hb hK1)
        | (go_at_call 36; refine (hK2 _).mono ?_; rintro e w2 ⟨rfl, hb⟩; have HB2 := Lib.hid (bthen HB1.out hb); clear hb hK2)
        | (go_at_call 33; refine (HY1.out _ HB2.out).mono ?_; rintro e w3 ⟨B, capB, hB, rfl, hs3, hb, _⟩; have HB3 := Lib.hid (bthen HB2.out hb); have HS3 := Lib.hid (hs3.reads [] (by simp)); clear hb hs3)
        | (go_at_call 37; refine (HY2.out _ HB3.out).mono ?_; rintro e w4 ⟨C, capC, hC, rfl, hs4, hb⟩; have HB4 := Lib.hid (bthen HB3.out hb); have HS3' := Lib.hid (HS3.out.below hb); have HS4 := Lib.hid (hs4.reads [] (by simp)); clear hb hs4)
        | fail)
      have hsm := fun W (h1 : RdS W [] 1 (.slice B K capB) K (ks.map encStr)) (h2 : RdS W [] 1 (.slice C K capC) K (ks.map encStr)) => same_yes W _ _ K ks HK.out h1 h2
      have HSM := Lib.hid hsm
      clear hsm
      go_wp2_with (first
        | (go_at_call 13; refine (hR1 _).mono ?_; rintro e w5 ⟨rfl, hb⟩; have HB5 := Lib.hid (bthen HB4.out hb); have HS3a := Lib.hid (HS3'.out.below hb); have HS4a := Lib.hid (HS4.out.below hb); clear hb hR1)
        | (go_at_call 38; refine (hR2 _).mono ?_; rintro e w6 ⟨rfl, hb⟩; have HB6 := Lib.hid (bthen HB5.out hb); have HS3b := Lib.hid (HS3a.out.below hb); have HS4b := Lib.hid (HS4a.out.below hb); clear hb hR2)
        | (go_at_call 16; refine (hF1 _).mono ?_; rintro e w7 ⟨rfl, rfl⟩; clear hF1)
        | (go_at_call 39; refine (hF2 _).mono ?_; rintro e w8 ⟨rfl, hb⟩; have HB8 := Lib.hid (bthen HB6.out hb); have HS3c := Lib.hid (HS3b.out.below hb); have HS4c := Lib.hid (HS4b.out.below hb); clear hb hF2)
        | (go_at_call 35; refine (HSM.out _ HS3c.out HS4c.out).mono ?_; rintro e w9 ⟨rfl, hb⟩; have HB9 := Lib.hid (bthen HB8.out hb); clear hb)
        | (go_at_call 20; refine (hNu _ _).mono ?_; rintro e wn ⟨rfl, rfl⟩)
        | (go_at_call 40; refine (HL1.out _ HB9.out).mono ?_; rintro e wa ⟨rfl, hb⟩; have HBa := Lib.hid (bthen HB9.out hb); clear hb)
        | (go_at_call 41; refine (HL2.out _ HBa.out).mono ?_; rintro e wb ⟨rfl, hb⟩; have HBb := Lib.hid (bthen HBa.out hb); clear hb)
        | (go_at_call 14; refine (hAw _).mono ?_; rintro e wc ⟨rfl, hb⟩; have HBc := Lib.hid (bthen HBb.out hb); clear hb)
        | fail)
      go_ret
      exact ⟨rfl, HBc.out⟩
    · rw [hgr] at hg
      clear hr hn hgr
      go_enter Try.func12, Try.ntmps12
      go_wp2_with (first
        | (go_at_call 32; refine hg.mono ?_; rintro e w1 ⟨rfl, rfl⟩; clear hg)
        | (go_at_call 14; refine (hAw _).mono ?_; rintro e w6 ⟨rfl, hb6⟩; have HB6 := Lib.hid hb6; clear hb6)
        | fail)
      go_ret
      exact ⟨rfl, HB6.out⟩

end Go.Proofs.Ytkgpflobbmagaaa
