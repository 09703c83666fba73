/-
  pillarboxlaw15.FlagSizes, walked: the keyword does not hang on the size of letters.
-/
import Derived.Test.YtkgpflobbmagaaaFlagBack
import Derived.Test.YtkgpflobbmagaaaFold1
namespace Go.Proofs.Ytkgpflobbmagaaa
open Go.RowKit

theorem lowB_up (c : UInt8) (h1 : 97 ≤ (c.toNat : Int)) (h2 : (c.toNat : Int) ≤ 122) : ∃ d : UInt8, (d.toNat : Int) = (c.toNat : Int) - 32 ∧ lowB d = lowB c := by
  refine ⟨c - 32, ?_, ?_⟩
  · rw [UInt8.toNat_sub]
    show (((2 ^ 8 - (32 : UInt8).toNat + c.toNat) % 2 ^ 8 : Nat) : Int) = _
    have : (32 : UInt8).toNat = 32 := rfl
    omega
  · have hd : ((c - 32).toNat : Int) = (c.toNat : Int) - 32 := by
      rw [UInt8.toNat_sub]
      have : (32 : UInt8).toNat = 32 := rfl
      omega
    have e1 := lowN_big (c - 32) (by omega) (by omega)
    have e2 := lowN_other c (by omega)
    unfold lowN at e1 e2
    exact UInt8.toNat_inj.1 (by omega)

theorem lowL_set (l : List UInt8) (k : Nat) (h : k < l.length) (d : UInt8) (hd : lowB d = lowB l[k]) : lowL (l.set k d) = lowL l := by
  unfold lowL
  rw [List.map_set, hd]
  have h2 : k < (l.map lowB).length := by simpa using h
  have : lowB l[k] = (l.map lowB)[k] := by simp
  rw [this, List.set_getElem_self]
theorem lowB_idem (c : UInt8) : lowB (lowB c) = lowB c := by
  by_cases h : 65 ≤ (c.toNat : Int) ∧ (c.toNat : Int) ≤ 90
  · have e1 := lowN_big c h.1 h.2
    unfold lowN at e1
    refine UInt8.toNat_inj.1 ?_
    have e2 := lowN_other (lowB c) (by omega)
    unfold lowN at e2
    omega
  · rw [lowB_other c h, lowB_other c h]
theorem lowL_idem (l : List UInt8) : lowL (lowL l) = lowL l := by
  unfold lowL
  rw [List.map_map]
  exact List.map_congr_left fun c _ => lowB_idem c

/-- What the loop keeps. -/
structure Ups (s : ByteArray) (L : Nat) (g : Nat) (w wr : World) (l : List UInt8) : Prop where
  len : l.length = L
  low : lowL l = lowL s.data.toList
  row : RowB wr g l
  lt : g < wr.heap.size
  below : Below w.heap.size w wr
  first : w.heap.size ≤ g

theorem Ups.step {s : ByteArray} {L g k : Nat} {w wr : World} {l : List UInt8} (h : Ups s L g w wr l) (hk : k < l.length) (d : UInt8) (hd : lowB d = lowB l[k]) :
    Ups s L g w (wr.setCell ⟨g, k, none⟩ (.int .u8 (d.toNat : Int))) (l.set k d) :=
  ⟨by simpa using h.len, (lowL_set l k hk d hd).trans h.low, h.row.set k hk d, by simpa using h.lt, h.below.setCell h.first _, h.first⟩

set_option maxRecDepth 100000 in
set_option maxHeartbeats 1000000 in
theorem flagSizes_any (s : ByteArray) (A : Option Addr) (n cap : Nat) (bs : Nat → Bool) (w : World) (hn : n ≤ maxLen)
    (hA : 0 < n → ∃ b off, A = some ⟨b, off, none⟩ ∧ b < w.heap.size ∧ ∀ j, j < n → w.cell? ⟨b, off + j, none⟩ = some (.bool (bs j))) :
    Calls Try.prog 4 #[.string s, .slice A n cap] w fun e w' => e = .returned (.bool true) ∧ Below w.heap.size w w' := by
  unfold maxLen at hn
  have hb := Below.refl w.heap.size w
  have HA := Lib.hid hA
  clear hA
  go_enter Try.func4, Try.ntmps4
  by_cases hbig : 100 < (s.size : Int)
  · go_wp2_with (first | (go_at_call 14; refine (awake15_any _).mono ?_; rintro e w1 ⟨rfl, hx⟩; replace hb := bthen hb hx; clear hx))
    go_ret
    exact ⟨rfl, hb⟩
  have hf := fun W => fold1_any s W (by omega)
  go_wp2_with (first | (go_at_call 17; refine (hf _).mono ?_; rintro e w1 ⟨rfl, hx⟩; replace hb := bthen hb hx; clear hx) | (refine wpList_bytes_of rfl 9 29 5 _ rfl Try.underlying9 Try.underlying29 Try.underlying5 _ rfl ?_))
  intro cap2 w2 hcap _ hrow hx hlt1
  have hstart : Ups s (lowS s).size w1.heap.size w w2 (lowS s).data.toList := ⟨lenB _, lowL_idem _, hrow, hlt1, bthen hb hx, hb.size⟩
  have HS := Lib.hid hstart
  clear hstart hrow hx hlt1 hb hf
  rw [lowS_size] at HS hcap ⊢
  go_wp2
  go_loopw [6] (fun i wr => ∃ (k : Nat) (l : List UInt8), k ≤ s.size ∧ i = .int .i64 k ∧ Hid (Ups s s.size w1.heap.size w wr l)) (fun i _ => s.size - (intOf i).toNat)
  case atStart => exact ⟨0, _, Nat.zero_le _, rfl, HS⟩
  case round =>
    obtain ⟨k, l, hk, rfl, HU⟩ := hrel
    have hlen := HU.out.len
    by_cases hgo : k < s.size ∧ k < n
    · obtain ⟨h1, h2⟩ := hgo
      · obtain ⟨ab, off, rfl, hbl, hcell⟩ := HA.out (by omega)
        have hkl : k < l.length := by rw [hlen]; exact h1
        have hc1 : wr.cell? ⟨ab, off + k, none⟩ = some (.bool (bs k)) := (HU.out.below.cell (p := ⟨ab, off + k, none⟩) hbl).trans (hcell k h2)
        obtain ⟨hc2, hf2⟩ := HU.out.row k hkl
        clear hcell HA
        have hstep := fun d => HU.out.step hkl d
        have hup := lowB_up l[k]
        generalize l[k] = c at hc2 hstep hup
        have HST := Lib.hid hstep
        have HUP := Lib.hid hup
        have HL := Lib.hid hlen
        clear hstep hup hlen
        generalize bs k = bk at hc1
        cases bk
        · go_wp2
          refine ⟨?_, by simp [intOf]; omega⟩
          first | exact ⟨k + 1, l, by omega, by go_num, HU⟩ | ((repeat apply Exists.intro); exact ⟨⟨k + 1, l, by omega, by go_num, HU⟩, rfl⟩)
        · by_cases h3 : 97 ≤ (c.toNat : Int)
          · by_cases h4 : (c.toNat : Int) ≤ 122
            · obtain ⟨d, hd1, hd2⟩ := HUP.out h3 h4
              have hnew := HST.out d hd2
              rw [hd1] at hnew
              have HN := Lib.hid hnew
              have HD := Lib.hid hd1
              clear hnew hd1 hd2
              go_wp2
              refine ⟨?_, by simp [intOf]; omega⟩
              first | exact ⟨k + 1, _, by omega, by go_num, HN⟩ | ((repeat apply Exists.intro); exact ⟨⟨k + 1, _, by omega, by go_num, HN⟩, rfl⟩)
            · go_wp2
              refine ⟨?_, by simp [intOf]; omega⟩
              first | exact ⟨k + 1, l, by omega, by go_num, HU⟩ | ((repeat apply Exists.intro); exact ⟨⟨k + 1, l, by omega, by go_num, HU⟩, rfl⟩)
          · go_wp2
            refine ⟨?_, by simp [intOf]; omega⟩
            first | exact ⟨k + 1, l, by omega, by go_num, HU⟩ | ((repeat apply Exists.intro); exact ⟨⟨k + 1, l, by omega, by go_num, HU⟩, rfl⟩)
    · have hcv := fun W (hx : Below wr.heap.size wr W) => run_string_row (P := Try.prog) (cap := cap2) Try.underlying29 Try.underlying5 (HU.out.row.below hx HU.out.lt) s.size hlen 9 Try.underlying9
      have hb := HU.out.below
      have hlow := HU.out.low
      have hlz : (⟨l.toArray⟩ : ByteArray).size = s.size := by rw [← hlen]; rfl
      have hK1 := fun W => key_any s W (by omega)
      have hK2 := fun W => key_any ⟨l.toArray⟩ W (by rw [hlz]; omega)
      have hK3 := fun W => key_any ⟨#[92, 82, 101, 99, 101, 110, 116]⟩ W (by decide)
      have hK4 := fun W => key_any ⟨#[92]⟩ W (by decide)
      rw [show keyOf (lowL (⟨#[92, 82, 101, 99, 101, 110, 116]⟩ : ByteArray).data.toList) = ([], false) from by decide +kernel] at hK3
      rw [show keyOf (lowL (⟨#[92]⟩ : ByteArray).data.toList) = ([], false) from by decide +kernel] at hK4
      rw [show lowL (⟨l.toArray⟩ : ByteArray).data.toList = lowL s.data.toList from hlow] at hK2
      generalize keyOf (lowL s.data.toList) = q at hK1 hK2
      obtain ⟨q1, q2⟩ := q
      clear HA HU hlow hlz
      by_cases h1 : k < s.size
      · have h2 : ¬ k < n := fun h => hgo ⟨h1, h⟩
        clear hgo
        go_wp2_with (first | (go_at_call 15; (with_reducible refine (hK1 _).mono ?_); rintro e w1 ⟨rfl, hx⟩; have hconv := hcv _ hx; replace hb := bthen hb hx; clear hx) | (go_at_call 15; (with_reducible refine (hK2 _).mono ?_); rintro e w1 ⟨rfl, hx⟩; replace hb := bthen hb hx; clear hx) | (go_at_call 15; (with_reducible refine (hK3 _).mono ?_); rintro e w1 ⟨rfl, hx⟩; replace hb := bthen hb hx; clear hx) | (go_at_call 15; (with_reducible refine (hK4 _).mono ?_); rintro e w1 ⟨rfl, hx⟩; replace hb := bthen hb hx; clear hx) | (go_at_call 14; refine (awake15_any _).mono ?_; rintro e w1 ⟨rfl, hx⟩; replace hb := bthen hb hx; clear hx))
        go_ret
        exact ⟨rfl, hb⟩
      · clear hgo
        go_wp2_with (first | (go_at_call 15; (with_reducible refine (hK1 _).mono ?_); rintro e w1 ⟨rfl, hx⟩; have hconv := hcv _ hx; replace hb := bthen hb hx; clear hx) | (go_at_call 15; (with_reducible refine (hK2 _).mono ?_); rintro e w1 ⟨rfl, hx⟩; replace hb := bthen hb hx; clear hx) | (go_at_call 15; (with_reducible refine (hK3 _).mono ?_); rintro e w1 ⟨rfl, hx⟩; replace hb := bthen hb hx; clear hx) | (go_at_call 15; (with_reducible refine (hK4 _).mono ?_); rintro e w1 ⟨rfl, hx⟩; replace hb := bthen hb hx; clear hx) | (go_at_call 14; refine (awake15_any _).mono ?_; rintro e w1 ⟨rfl, hx⟩; replace hb := bthen hb hx; clear hx))
        go_ret
        exact ⟨rfl, hb⟩

end Go.Proofs.Ytkgpflobbmagaaa
