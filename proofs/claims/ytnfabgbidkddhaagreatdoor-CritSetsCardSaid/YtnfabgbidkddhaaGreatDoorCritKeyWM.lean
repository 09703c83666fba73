/-
  The walk of crit's key.
-/
import Derived.Test.YtnfabgbidkddhaaGreatDoorCritKeyM
namespace Go.Proofs.YtnfabgbidkddhaaGreatDoor
open Go.RowKit
attribute [local go_sem ↓] Go.wp_at_zero Go.wp_at_succ

/-- A key's function is one of the program's own. -/
theorem ask_enters {w : World} {n : FuncId} {caps : Array Value} : ∀ (a : Ask), AskAt w a (.func (.func n) #[] caps) → ∀ args W, (callFunc n args).run Tryz.prog W = .ok (.enter n args) W
  | .all, e => by
    injection e with e1 _ _
    injection e1 with e1
    subst e1
    exact enters_of Tryz.func66 (by kernel_rfl) rfl
  | .keyword, e => by
    injection e with e1 _ _
    injection e1 with e1
    subst e1
    exact enters_of Tryz.func67 (by kernel_rfl) rfl
  | .on, e => by
    injection e with e1 _ _
    injection e1 with e1
    subst e1
    exact enters_of Tryz.func69 (by kernel_rfl) rfl
  | .header, e => by
    injection e with e1 _ _
    injection e1 with e1
    subst e1
    exact enters_of Tryz.func70 (by kernel_rfl) rfl
  | .uid, e => by
    injection e with e1 _ _
    injection e1 with e1
    subst e1
    exact enters_of Tryz.func71 (by kernel_rfl) rfl
  | .modseq, e => by
    injection e with e1 _ _
    injection e1 with e1
    subst e1
    exact enters_of Tryz.func72 (by kernel_rfl) rfl
  | .not, e => by
    injection e with e1 _ _
    injection e1 with e1
    subst e1
    exact enters_of Tryz.func73 (by kernel_rfl) rfl
  | .or, e => by
    injection e with e1 _ _
    injection e1 with e1
    subst e1
    exact enters_of Tryz.func74 (by kernel_rfl) rfl
  | .time _, ⟨_, e, _⟩ => by
    injection e with e1 _ _
    injection e1 with e1
    subst e1
    exact enters_of Tryz.func110 (by kernel_rfl) rfl
  | .counts _ _, ⟨_, _, e, _, _⟩ => by
    injection e with e1 _ _
    injection e1 with e1
    subst e1
    exact enters_of Tryz.func111 (by kernel_rfl) rfl
  | .says _, ⟨_, e, _⟩ => by
    injection e with e1 _ _
    injection e1 with e1
    subst e1
    exact enters_of Tryz.func112 (by kernel_rfl) rfl
  | .head _, ⟨_, e, _⟩ => by
    injection e with e1 _ _
    injection e1 with e1
    subst e1
    exact enters_of Tryz.func113 (by kernel_rfl) rfl
  | .has _, ⟨_, e, _⟩ => by
    injection e with e1 _ _
    injection e1 with e1
    subst e1
    exact enters_of Tryz.func114 (by kernel_rfl) rfl
  | .un _, ⟨_, _, e, _, _⟩ => by
    injection e with e1 _ _
    injection e1 with e1
    subst e1
    exact enters_of Tryz.func107 (by kernel_rfl) rfl
theorem eqAsks_nil (w : World) : (Go.binOp BinOp.eql 98 Value.nilFunc Value.nilFunc).run Tryz.prog w = .ok (.bool true) w := by kernel_rfl
theorem eqAsks_fn (n : Fn) (caps : Array Value) (w : World) : (Go.binOp BinOp.eql 98 (Value.func n #[] caps) Value.nilFunc).run Tryz.prog w = .ok (.bool false) w := by kernel_rfl
theorem isPlace_nil : isPlace ByteArray.empty = false := by decide
theorem isPlace_cons (t : ByteArray) (h : 0 < t.size) : isPlace t = (decide ((t[0].toNat : Int) = 42) || (decide (48 ≤ (t[0].toNat : Int)) && decide ((t[0].toNat : Int) ≤ 57))) := by
  obtain ⟨⟨l⟩⟩ := t
  cases l with
  | nil => exact absurd h (by decide)
  | cons c r =>
    show (c == 42 || (decide (48 ≤ c) && decide (c ≤ 57))) = (decide ((c.toNat : Int) = 42) || (decide (48 ≤ (c.toNat : Int)) && decide ((c.toNat : Int) ≤ 57)))
    have e1 : (c == 42) = decide ((c.toNat : Int) = 42) := by
      rw [Bool.eq_iff_iff]
      simp only [beq_iff_eq, decide_eq_true_eq]
      constructor
      · rintro rfl
        rfl
      · intro h
        have : c.toNat = (42 : UInt8).toNat := by show c.toNat = 42; omega
        exact UInt8.toNat_inj.mp this
    have e2 : decide (48 ≤ c) = decide (48 ≤ (c.toNat : Int)) := by
      rw [decide_eq_decide, UInt8.le_iff_toNat_le]
      show 48 ≤ c.toNat ↔ _
      omega
    have e3 : decide (c ≤ 57) = decide ((c.toNat : Int) ≤ 57) := by
      rw [decide_eq_decide, UInt8.le_iff_toNat_le]
      show c.toNat ≤ 57 ↔ _
      omega
    rw [e1, e2, e3]

/-- Behind the first word: the word in a block of the call's own, the reader behind it. -/
structure KeySt (w0 w w1 : World) (g ob mb : Nat) (uv : Value) (E : CEnv) (h : Hn) (ts : List WT) (out : Out) (mod : Bool) (k : Int) (t : ByteArray) (u : Value) : Prop where
  st : KSt w0 w w1 g ob mb uv E h ts out mod h
  blk : Blk w1 w.heap.size 41 #[.int .i64 k, .string t, u]

section
variable {w0 w w' : World} {g ob mb : Nat} {uv : Value} {E : CEnv} {ws : List WT} {out : Out} {mod : Bool} {h : Hn}

set_option maxRecDepth 100000 in
theorem key_nil (s : RAt w0 w g ob mb uv E [] out mod h) (bound : Nat) (hb : out.length ≤ bound) :
    Calls Tryz.prog 26 #[.pointer (some ⟨g, 0, none⟩)] w (KOut w0 w g ob mb uv E h bound 0 none) := by
  obtain ⟨wv, hg, hw⟩ := s.rd
  have HS := Lib.hid s
  obtain ⟨A, cap, rfl, _, _⟩ := hw.form
  have e0 : w.cell? ⟨g, 0, none⟩ = some (.slice A 0 cap) := hg.cell 0
  clear s hg hw
  go_enter Tryz.func26, Tryz.ntmps26
  go_wp2
  go_ret2
  exact ⟨_, false, _, _, _, _, rfl, HS.out.refl, rfl, by simpa [szL] using hb, by simp [szL]⟩

set_option maxRecDepth 100000 in
set_option maxHeartbeats 8000000 in
theorem key_step {N : Nat} (hr : KeyRec E N) : KeyRec E (N + 1) := by
  intro w0 w g ob mb uv ws out mod h he s hN hn
  obtain ⟨wv, hg, hw⟩ := s.rd
  have HS := Lib.hid s
  have HE := Lib.hid he
  cases ws with
  | nil =>
    exact key_nil s _ (by omega)
  | cons t0 ts =>
    obtain ⟨k, t, kids⟩ := t0
    obtain ⟨b, off, cap, u, rfl, hc1, hc2, hbl, d0, d1, d2, hu, hrest⟩ := hw.head
    obtain ⟨Au, cu, hux0, _, _⟩ := hu.form
    have hux : u = .slice Au kids.length cu := hux0
    clear hux0
    have hu : WsAt w0 u kids := hu
    have e0 : w.cell? ⟨g, 0, none⟩ = some (.slice (some ⟨b, off, none⟩) (ts.length + 1) cap) := hg.cell 0
    have ef : w.frozen? ⟨g, 0, none⟩ = false := hg.frozen 0
    have d0' : w.cell? ⟨b, off, none⟩ = some (.int .i64 k) := (s.bel.cell (p := ⟨b, off, none⟩) hbl).trans d0
    have d1' : w.cell? ⟨b, off + 1, none⟩ = some (.string t) := (s.bel.cell (p := ⟨b, off + 1, none⟩) hbl).trans d1
    have d2' : w.cell? ⟨b, off + 2, none⟩ = some u := (s.bel.cell (p := ⟨b, off + 2, none⟩) hbl).trans d2
    have hok := s.ok
    unfold okL okW at hok
    obtain ⟨⟨hok1, hok2⟩, hok3⟩ := hok
    have hgl := hg.lt
    have hres : ∀ v, WsAt w0 v ts → KeySt w0 w ((w.setCell ⟨g, 0, none⟩ v).alloc (.cells #[.int .i64 k, .string t, u] 41)) g ob mb uv E h ts out mod k t u := fun v hv => by
      have k1 := s.take hv hok3
      have hsz : (w.setCell ⟨g, 0, none⟩ v).heap.size = w.heap.size := by simp [World.setCell]
      refine ⟨k1.below ((Below.refl _ _).alloc (Nat.le_refl _) _), ?_⟩
      have := Blk.new (w.setCell ⟨g, 0, none⟩ v) 41 #[.int .i64 k, .string t, u]
      rw [hsz] at this
      exact this
    have hkey : keyP E (N + 1) (.mk k t kids :: ts) out mod = if k = 3 then listP N (keyP E N) kids ts out mod
        else if k ≠ 1 then none
        else if isPlace t = true then placeP E t ts out mod
        else match askOf (lowS t) with
          | none => none
          | some a => askP E (keyP E N) a ts out mod := rfl
    rw [hkey]
    obtain ⟨res, hre⟩ : ∃ res, (if k = 3 then listP N (keyP E N) kids ts out mod
        else if k ≠ 1 then none
        else if isPlace t = true then placeP E t ts out mod
        else match askOf (lowS t) with
          | none => none
          | some a => askP E (keyP E N) a ts out mod) = res := ⟨_, rfl⟩
    rw [hre]
    have HRE := Lib.hid hre
    have hszl : szL (.mk k t kids :: ts) = 1 + szL kids + szL ts := by simp [szL, szW]
    rw [hszl] at hN hn ⊢
    have HR := Lib.hid hr
    have HU := Lib.hid hu
    have HOK2 := Lib.hid hok2
    have HOK1 := Lib.hid hok1
    have HREST := Lib.hid hrest
    have HRES := Lib.hid hres
    generalize kids.length = KL at hux
    generalize ts.length = L at e0 HREST hc1
    subst hux
    clear s hg hw d0 d1 d2 hu hrest hok1 hok2 hok3 hres hkey hszl he hr hre
    go_enter Tryz.func26, Tryz.ntmps26
    go_upto_region 4 with (fail)
    go_cut [] (fun wx => Hid (KeySt w0 w wx g ob mb uv E h ts out mod k t (.slice Au KL cu)))
    case first =>
      by_cases hcap : cap - 1 = 0
      · rw [if_pos hcap] at HREST
        obtain rfl : cap = 1 := by omega
        obtain rfl : L = 0 := by omega
        go_wp2
        go_meet
        exact HRES.out _ HREST.out
      · rw [if_neg hcap] at HREST
        go_wp2
        go_meet
        exact HRES.out _ HREST.out
    case rest =>
      have HK := hcut
      have c0 : wc.cell? ⟨w.heap.size, 0, none⟩ = some (.int .i64 k) := HK.out.blk.cell 0
      have c1 : wc.cell? ⟨w.heap.size, 1, none⟩ = some (.string t) := HK.out.blk.cell 1
      have c2 : wc.cell? ⟨w.heap.size, 2, none⟩ = some (.slice Au KL cu) := HK.out.blk.cell 2
      have hXl := HK.out.blk.lt
      have HX := Lib.hid hXl
      obtain ⟨X, hX⟩ : ∃ X, w.heap.size = X := ⟨_, rfl⟩
      rw [hX] at c0 c1 c2 HX
      rw [hX]
      have ht := HOK1.out
      clear hcut hXl hX HRES HREST
      go_upto_block 0 with (fail)
      go_cut [] (fun wx => wx = wc ∧ Hid (k = 1 ∧ isPlace t = false))
      case first =>
        by_cases hk3 : k = 3
        · subst hk3
          have hli := list_anyK HR.out HK.out.st.at_ HE.out kids _ HU.out HOK2.out (by omega) (by omega)
          have hre := HRE.out
          rw [if_pos rfl] at hre
          rw [hre] at hli
          clear hre
          go_wp2_with (first
            | (go_at_call 42; refine hli.mono ?_; rintro e w5 ⟨k5, ok5, ws5, out5, mod5, h5, rfl, hk5, r5, b5, s5⟩; have HK5 := Lib.hid (HK.out.st.trans hk5); have HR5 := Lib.hid r5; have HB5 := Lib.hid b5; have HS5 := Lib.hid s5; clear hk5 r5 b5 s5 hli)
            | fail)
          go_ret2
          exact ⟨_, ok5, _, _, _, _, rfl, HK5.out, HR5.out, by have := HB5.out; omega, by have := HS5.out; omega⟩
        · have hk3b : (k == 3) = false := by simpa using hk3
          by_cases hk1 : k = 1
          · subst hk1
            have hpl := fun (hp : isPlace t = true) => places_anyK HK.out.st.at_ HE.out t ht (by omega)
            have hre := HRE.out
            rw [if_neg (by decide), if_neg (by simp)] at hre
            have HRE2 := Lib.hid hre
            clear hre
            rcases Nat.eq_zero_or_pos t.size with h0 | h0
            · have hte : t = ByteArray.empty := of_dataL t [] (List.eq_nil_of_length_eq_zero (by rw [lenB]; exact h0))
              subst hte
              go_wp2
              go_meet
              exact ⟨by first | rfl | trivial, Lib.hid ⟨by first | rfl | trivial, isPlace_nil⟩⟩
            · have hne : t.toList.isEmpty = false := by
                rw [ByteArray.toList_eq, List.isEmpty_eq_false_iff]
                intro h
                have := lenB t
                rw [h] at this
                simp at this
                omega
              have hpc := isPlace_cons t h0
              have HPC := Lib.hid hpc
              clear hpc
              by_cases c42 : (t[0].toNat : Int) = 42
              · have hp : isPlace t = true := by rw [HPC.out, decide_eq_true c42]; rfl
                have hpl2 := hpl hp
                have hre := HRE2.out
                rw [if_pos hp] at hre
                rw [hre] at hpl2
                have hb1 : ((t[0].toNat : Int) == 42) = true := by simpa using c42
                clear hp hre hpl c42
                go_wp2_with (first
                  | (go_at_call 43; refine hpl2.mono ?_; rintro e w5 ⟨k5, ok5, ws5, out5, mod5, h5, rfl, hk5, r5, b5, s5⟩; have HK5 := Lib.hid (HK.out.st.trans hk5); have HR5 := Lib.hid r5; have HB5 := Lib.hid b5; have HS5 := Lib.hid s5; clear hk5 r5 b5 s5 hpl2)
                  | fail)
                go_ret2
                exact ⟨_, ok5, _, _, _, _, rfl, HK5.out, HR5.out, by have := HB5.out; omega, by have := HS5.out; omega⟩
              · have hb1 : ((t[0].toNat : Int) == 42) = false := by simpa using c42
                by_cases c48 : 48 ≤ (t[0].toNat : Int)
                · by_cases c57 : (t[0].toNat : Int) ≤ 57
                  · have hp : isPlace t = true := by rw [HPC.out, decide_eq_true c48, decide_eq_true c57]; simp
                    have hpl2 := hpl hp
                    have hre := HRE2.out
                    rw [if_pos hp] at hre
                    rw [hre] at hpl2
                    clear hp hre hpl
                    go_wp2_with (first
                      | (go_at_call 43; refine hpl2.mono ?_; rintro e w5 ⟨k5, ok5, ws5, out5, mod5, h5, rfl, hk5, r5, b5, s5⟩; have HK5 := Lib.hid (HK.out.st.trans hk5); have HR5 := Lib.hid r5; have HB5 := Lib.hid b5; have HS5 := Lib.hid s5; clear hk5 r5 b5 s5 hpl2)
                      | fail)
                    go_ret2
                    exact ⟨_, ok5, _, _, _, _, rfl, HK5.out, HR5.out, by have := HB5.out; omega, by have := HS5.out; omega⟩
                  · have hp : isPlace t = false := by rw [HPC.out, decide_eq_false c42, decide_eq_false c57]; simp
                    have HP := Lib.hid hp
                    clear hp hpl
                    go_wp2
                    go_meet
                    exact ⟨by first | rfl | trivial, Lib.hid ⟨by first | rfl | trivial, HP.out⟩⟩
                · have hp : isPlace t = false := by rw [HPC.out, decide_eq_false c42, decide_eq_false c48]; simp
                  have HP := Lib.hid hp
                  clear hp hpl
                  go_wp2
                  go_meet
                  exact ⟨by first | rfl | trivial, Lib.hid ⟨by first | rfl | trivial, HP.out⟩⟩
          · have hk1b : (k != 1) = true := by simpa using hk1
            have hre := HRE.out
            rw [if_neg hk3, if_pos hk1] at hre
            subst hre
            go_wp2
            go_ret2
            exact ⟨_, false, _, _, _, _, rfl, HK.out.st, rfl, by omega, by simp <;> omega⟩
      case rest =>
        obtain ⟨rfl, HP⟩ := hcut
        obtain ⟨rfl, hp⟩ := HP.out
        have hre := HRE.out
        rw [if_neg (by decide), if_neg (by simp), if_neg (by rw [hp]; decide)] at hre
        have HRE2 := Lib.hid hre
        obtain ⟨wz, hwz⟩ : ∃ wz, wz = wc := ⟨_, rfl⟩
        have hfd := fun W => fold_any t W (by omega)
        have hcx := fun W (hb : Below wc.heap.size wc W) => (hb.cell (p := ⟨X, 1, none⟩) HX.out).trans c1
        have HCX := Lib.hid hcx
        clear hre HP hp hcx HRE
        go_upto_region 11 with (fail)
        go_region_held3 (fun W => W.cell? ⟨X, 1, none⟩ = some (.string t)) (first | exact HC2.out | exact HC1.out | go_keep) (first
          | (go_at_call 44; refine (keys_anyC _).mono ?_; rintro e wk ⟨b2, rfl, hkt⟩; have HB1 := Lib.hid (show Below wc.heap.size wc wk from belowDD (by obtain ⟨m, hm⟩ := hkt; exact hm.bel)); have HC1 := Lib.hid (HCX.out _ HB1.out); have HKT := Lib.hid hkt; clear hkt)
          | (go_at_call 40; refine (hfd _).mono ?_; rintro e wf ⟨rfl, hbf⟩; have HB2 := Lib.hid (belowD HB1.out hbf); have HC2 := Lib.hid (HCX.out _ HB2.out); obtain ⟨m, hm⟩ := HKT.out.below hbf; have HM := Lib.hid hm; have hlk := run_lookup_str1 (P := Tryz.prog) Tryz.underlying99 Tryz.underlying9 zeroAsks hm.map (lowS t); obtain ⟨fv, hfv⟩ : ∃ fv, (getS m (lowS t)).getD .nilFunc = fv := ⟨_, rfl⟩; rw [hfv] at hlk; have HFV := Lib.hid hfv; clear hfv hm hbf)
          | fail)
        all_goals
          have hre := HRE2.out
          have hfv := HFV.out
          have HKF := Lib.hid (HK.out.st.below HB2.out)
          rcases HM.out.tab.get (lowS t) with ⟨h1, h2⟩ | ⟨a, v, h1, h2, h3⟩
          · have h1 : askOf (lowS t) = none := h1
            rw [h2] at hfv
            rw [h1] at hre
            have hfv : Value.nilFunc = fv := hfv
            subst hfv hre
            clear hlk h1 h2
            have hq := eqAsks_nil
            go_wp2
            go_ret2
            exact ⟨_, false, _, _, _, _, rfl, HKF.out, rfl, by omega, by simp <;> omega⟩
          · have h1 : askOf (lowS t) = some a := h1
            rw [h2] at hfv
            rw [h1] at hre
            have hfv : v = fv := hfv
            subst hfv
            obtain ⟨n, caps, rfl⟩ := h3.form
            have heg := ask_enters a h3
            have hask := ask_anyK HR.out HKF.out.at_ HE.out (by omega) (by omega) a (askOf_good h1) h3
            have hre : askP E (keyP E N) a ts out mod = res := hre
            rw [hre] at hask
            clear hlk h1 h2 h3 hre
            have hq := eqAsks_fn
            go_wp2_with (first
              | (refine hask.mono ?_; rintro e w5 ⟨k5, ok5, ws5, out5, mod5, h5, rfl, hk5, r5, b5, s5⟩; have HK5 := Lib.hid (HKF.out.trans hk5); have HR5 := Lib.hid r5; have HB5 := Lib.hid b5; have HS5 := Lib.hid s5; clear hk5 r5 b5 s5 hask)
              | fail)
            go_ret2
            exact ⟨_, ok5, _, _, _, _, rfl, HK5.out, HR5.out, by have := HB5.out; omega, by have := HS5.out; omega⟩

theorem key_all : ∀ N, KeyRec E N
  | 0 => by
    intro w0 w g ob mb uv ws out mod h he s hN hn
    cases ws with
    | nil => exact key_nil s _ (by omega)
    | cons t ts =>
      have := szW_pos t
      simp only [szL] at hN
      omega
  | N + 1 => key_step (key_all N)
end

end Go.Proofs.YtnfabgbidkddhaaGreatDoor
