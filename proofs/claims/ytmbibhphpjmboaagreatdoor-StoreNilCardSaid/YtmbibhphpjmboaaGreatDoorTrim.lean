/-
  strings.Cut at a colon and strings.Trim of blanks and tabs, at this program.
-/
import Derived.Test.YtmbibhphpjmboaaGreatDoorCutOne
import Derived.Test.YtmbibhphpjmboaaGreatDoorShelf
import Derived.Shelf.Strings.SlTrimAscii
import Derived.Shelf.Lay
import Derived.Ground.NamesProg
namespace Go.Proofs.YtmbibhphpjmboaaGreatDoor
open Go.Shelf Go.RowKit

shelf_lay Lays.n160 Nm 160 at Tryz as Tryz.lays160

theorem trim_any (s : List UInt8) (w : World) (hs : s.length ≤ 4294967281) :
    Calls Tryz.prog 205 #[.string ⟨s.toArray⟩, .string ⟨#[32, 9]⟩] w fun e w' => e = .returned (.string ⟨(Lib.trimS s [32, 9]).toArray⟩) ∧ Below w.heap.size w w' :=
  Any.strings_Trim_laid Tryz.lays160 (by kernel_rfl) ⟨s.toArray⟩ ⟨#[32, 9]⟩ w (by show s.toArray.size ≤ _; simp; omega) (by decide) (ascii_of_all (by decide))
theorem cut_any (s : List UInt8) (w : World) (hs : s.length < 4294967281) :
    Calls Tryz.prog 204 #[.string ⟨s.toArray⟩, .string ⟨#[58]⟩] w fun e w' => e = .returned (.tuple #[.string ⟨(Lib.cut s [58]).1.toArray⟩, .string ⟨(Lib.cut s [58]).2.1.toArray⟩, .bool (Lib.cut s [58]).2.2]) ∧ ∃ n, w' = w.drewN n :=
  cut_one Tryz.lays145 ⟨s.toArray⟩ 58 w (by show s.toArray.size < _; simp; omega)

end Go.Proofs.YtmbibhphpjmboaaGreatDoor
