/-
  The library's table of tens, out of what the row lists.
-/
import Derived.Test.YtgkfknbhkonfdaaGreatDoorGVC
import Derived.Test.YtgkfknbhkonfdaaGreatDoorRows
import Derived.Lib.LaidU8
namespace Go.Proofs.YtgkfknbhkonfdaaGreatDoor
open Go.RowKit

theorem tensV_of_laid {W : World} {l : List (String × DataW Unit)} (h : laidMet Tryz.prog l W) (hm : ("internal/strconv.uint64pow10", Rows.laid_internal_strconv_uint64pow10) ∈ l) : TensV W := by
  obtain ⟨g, t, cs, fuel, p, hg, hty, hv, hd⟩ := Lib.laidMet.reads h hm
  have e : (Rows.laid_internal_strconv_uint64pow10 : DataW Unit) = Lib.tabData .u64 Lib.pow10Tab := by kernel_rfl
  rw [e] at hd
  obtain rfl := Option.some.inj ((show Tryz.prog.globalNamed "internal/strconv.uint64pow10" = some 1 by kernel_rfl).symm.trans hg)
  obtain rfl := Option.some.inj ((show (Tryz.prog.globals[1]?).map (·.type) = some 314 by kernel_rfl).symm.trans hty)
  unfold TensV Lib.TabIs
  rw [hv, ← Lib.cells_of_tab Tryz.underlying314 Tryz.underlying256 (by kernel_rfl) (by kernel_rfl) hd]

end Go.Proofs.YtgkfknbhkonfdaaGreatDoor
