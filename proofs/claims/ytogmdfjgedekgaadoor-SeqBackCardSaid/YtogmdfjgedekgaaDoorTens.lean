/-
  The library's table of tens, out of what the row lists.
-/
import Derived.Test.YtogmdfjgedekgaaDoorSeqTextW
import Derived.Test.YtogmdfjgedekgaaDoorRows
import Derived.Lib.LaidU8
namespace Go.Proofs.YtogmdfjgedekgaaDoor
open Go.RowKit

theorem tens_of_laid {W : World} {l : List (String × DataW Unit)} (h : laidMet Tryd.prog l W) (hm : ("internal/strconv.uint64pow10", Rows.laid_internal_strconv_uint64pow10) ∈ l) : Tens W := by
  obtain ⟨g, t, cs, fuel, p, hg, hty, hv, hd⟩ := Lib.laidMet.reads h hm
  have e : (Rows.laid_internal_strconv_uint64pow10 : DataW Unit) = Lib.tabData .u64 Lib.pow10Tab := by kernel_rfl
  rw [e] at hd
  obtain rfl := Option.some.inj ((show Tryd.prog.globalNamed "internal/strconv.uint64pow10" = some 3 by kernel_rfl).symm.trans hg)
  obtain rfl := Option.some.inj ((show (Tryd.prog.globals[3]?).map (·.type) = some 156 by kernel_rfl).symm.trans hty)
  unfold Tens Lib.TabIs
  rw [hv, ← Lib.cells_of_tab Tryd.underlying156 Tryd.underlying120 (by kernel_rfl) (by kernel_rfl) hd]

end Go.Proofs.YtogmdfjgedekgaaDoor
