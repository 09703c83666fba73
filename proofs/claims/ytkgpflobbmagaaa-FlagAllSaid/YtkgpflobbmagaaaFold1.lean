/-
  The walk of pillarboxref1.Fold: letters A to Z made small, in a row of bytes of the call's own.
-/
import Derived.Test.YtkgpflobbmagaaaBytes
namespace Go.Proofs.Ytkgpflobbmagaaa
open Go.RowKit

theorem lowB_big (c : UInt8) (h1 : 65 ≤ (c.toNat : Int)) (h2 : (c.toNat : Int) ≤ 90) : (c.toNat : Int) + 32 = ((lowB c).toNat : Int) := (lowN_big c h1 h2).symm
theorem lowB_other (c : UInt8) (h : ¬ (65 ≤ (c.toNat : Int) ∧ (c.toNat : Int) ≤ 90)) : lowB c = c := by
  have := lowN_other c h
  unfold lowN at this
  exact UInt8.toNat_inj.1 (by omega)

set_option maxRecDepth 100000 in
set_option maxHeartbeats 400000 in
theorem fold1_any (s : ByteArray) (w : World) (hs : s.size ≤ 140737488351232) :
    Calls Try.prog 17 #[.string s] w fun e w' => e = .returned (.string (lowS s)) ∧ Below w.heap.size w w' := by
  go_enter Try.func17, Try.ntmps17
  go_wp2_with (refine wpList_bytes_of rfl 9 29 5 _ rfl Try.underlying9 Try.underlying29 Try.underlying5 _ rfl ?_)
  intro cap w1 hcap _ hrow hb hlt1
  have hrow2 := Lib.hid hrow
  clear hrow
  go_wp2
  go_loopw [4] (fun i wr => ∃ k : Nat, k ≤ s.size ∧ i = .int .i64 k ∧ RowB wr w.heap.size (lowUpTo s.data.toList k) ∧ w.heap.size < wr.heap.size ∧ Below w.heap.size w wr) (fun i _ => s.size - (intOf i).toNat)
  case atStart => exact ⟨0, Nat.zero_le _, rfl, by rw [lowUpTo_zero]; exact hrow2.out, hlt1, hb⟩
  case round =>
    obtain ⟨k, hk, rfl, hrw, hsz, hb2⟩ := hrel
    by_cases hlt : k < s.size
    · have hkl : k < s.data.toList.length := by rw [lenB]; exact hlt
      have hk2 : k < (lowUpTo s.data.toList k).length := by rw [lowUpTo_length]; exact hkl
      obtain ⟨hc, hf⟩ := hrw k hk2
      rw [lowUpTo_at _ _ hkl hk2] at hc
      have HR := Lib.hid hrw
      have hset := lowUpTo_set s.data.toList k hkl
      have hstay := lowUpTo_stay s.data.toList k hkl
      have hbig := lowB_big s.data.toList[k]
      have hoth := lowB_other s.data.toList[k]
      generalize s.data.toList[k] = c at hc hset hstay hbig hoth
      have H1 := Lib.hid hset
      have H2 := Lib.hid hstay
      have H3 := Lib.hid hbig
      have H4 := Lib.hid hoth
      clear hrw hset hstay hbig hoth
      by_cases h1 : 65 ≤ (c.toNat : Int)
      · by_cases h2 : (c.toNat : Int) ≤ 90
        · go_wp2
          refine ⟨?_, by simp [intOf]; omega⟩
          have hr2 : RowB (wr.setCell ⟨w.heap.size, k, none⟩ (.int .u8 ((c.toNat : Int) + 32))) w.heap.size (lowUpTo s.data.toList (k + 1)) := by
            rw [← H1.out, H3.out h1 h2]
            exact HR.out.set k hk2 _
          have hb3 : Below w.heap.size w (wr.setCell ⟨w.heap.size, k, none⟩ (.int .u8 ((c.toNat : Int) + 32))) := hb2.setCell (Nat.le_refl _) _
          first | exact ⟨k + 1, by omega, by go_num, hr2, by simpa using hsz, hb3⟩ | ((repeat apply Exists.intro); exact ⟨⟨k + 1, by omega, by go_num, hr2, by simpa using hsz, hb3⟩, rfl⟩)
        · have hr2 : RowB wr w.heap.size (lowUpTo s.data.toList (k + 1)) := by
            rw [← H2.out (H4.out (fun h => h2 h.2))]
            exact HR.out
          have HR2 := Lib.hid hr2
          clear hr2
          go_wp2
          refine ⟨?_, by simp [intOf]; omega⟩
          first | exact ⟨k + 1, by omega, by go_num, HR2.out, hsz, hb2⟩ | ((repeat apply Exists.intro); exact ⟨⟨k + 1, by omega, by go_num, HR2.out, hsz, hb2⟩, rfl⟩)
      · have hr2 : RowB wr w.heap.size (lowUpTo s.data.toList (k + 1)) := by
          rw [← H2.out (H4.out (fun h => h1 h.1))]
          exact HR.out
        have HR2 := Lib.hid hr2
        clear hr2
        go_wp2
        refine ⟨?_, by simp [intOf]; omega⟩
        first | exact ⟨k + 1, by omega, by go_num, HR2.out, hsz, hb2⟩ | ((repeat apply Exists.intro); exact ⟨⟨k + 1, by omega, by go_num, HR2.out, hsz, hb2⟩, rfl⟩)
    · have hk3 : k = s.size := by omega
      subst hk3
      have hconv := run_string_row (P := Try.prog) (cap := cap) Try.underlying29 Try.underlying5 hrw s.size (by rw [lowUpTo_length, lenB]) 9 Try.underlying9
      rw [show lowUpTo s.data.toList s.size = lowL s.data.toList from by rw [← lenB, lowUpTo_all]] at hconv
      clear hrw
      go_wp2
      go_ret
      exact ⟨rfl, hb2⟩

end Go.Proofs.Ytkgpflobbmagaaa
