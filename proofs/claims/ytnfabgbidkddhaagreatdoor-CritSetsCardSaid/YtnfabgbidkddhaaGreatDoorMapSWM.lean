/-
  Maps by texts in a walk: a literal's entries, a store, a tuple's store. Over any program.
-/
import Derived.Test.YtnfabgbidkddhaaGreatDoorMapSM
namespace Go.Proofs.YtnfabgbidkddhaaGreatDoor
open Go.RowKit

section
variable {P : Program} {W : World} {b : Nat} {m : List (ByteArray × Value)}

/-- an entry of a literal. -/
theorem wpList_insert_str {ops : Array Oper} {rest : List Oper} {o : Oper} {a : Act} {Q : Exit → Act → World → Prop} (hgd : o.guard = none) (t : TypeId) (mo ko vo : Operand)
    (ho : o.op = .insert t mo ko vo) {kt e : TypeId} (ht : P.underlying t = some (.map kt e)) (hk : P.underlying kt = some .string) (hm : MapS W b m) (hmv : a.eval mo = .map (some b)) (x : ByteArray) (hx : a.eval ko = .string x) (v : Value) (hv : a.eval vo = v)
    (hK : ∀ w' u, MapS w' b (putS m x v) → Chg [b] W w' → wpList P ops Q rest (a.put o.dst u) w') : wpList P ops Q (o :: rest) a W := by
  refine wpList_plain hgd fun K hK' => ?_
  obtain ⟨w', hr, h1, h2⟩ := run_mapUpdate_str (P := P) ht hk hm x v
  unfold Oper.wp execOp
  simp only [ho, hmv, hx, hv, Sem.run_bind, Sem.run_pure, Result.andThen_ok, hr]
  exact hK' _ _ (hK w' _ h1 h2)
/-- 'm[k] = v'. -/
theorem wpList_update_str {ops : Array Oper} {rest : List Oper} {o : Oper} {a : Act} {Q : Exit → Act → World → Prop} (hgd : o.guard = none) (t : TypeId) (mo ko vo : Operand)
    (ho : o.op = .mapUpdate t mo ko vo) {kt e : TypeId} (ht : P.underlying t = some (.map kt e)) (hk : P.underlying kt = some .string) (hm : MapS W b m) (hmv : a.eval mo = .map (some b)) (x : ByteArray) (hx : a.eval ko = .string x) (v : Value) (hv : a.eval vo = v)
    (hK : ∀ w' u, MapS w' b (putS m x v) → Chg [b] W w' → wpList P ops Q rest (a.put o.dst u) w') : wpList P ops Q (o :: rest) a W := by
  refine wpList_plain hgd fun K hK' => ?_
  obtain ⟨w', hr, h1, h2⟩ := run_mapUpdate_str (P := P) ht hk hm x v
  unfold Oper.wp execOp
  simp only [ho, hmv, hx, hv, Sem.run_bind, Sem.run_pure, Result.andThen_ok, hr]
  exact hK' _ _ (hK w' _ h1 h2)
/-- the place of a tuple's store. -/
theorem wpList_entry_str {ops : Array Oper} {rest : List Oper} {o : Oper} {a : Act} {Q : Exit → Act → World → Prop} (hgd : o.guard = none) (t : TypeId) (mo ko : Operand)
    (ho : o.op = .mapEntry t mo ko) {kt e : TypeId} (ht : P.underlying t = some (.map kt e)) (hk : P.underlying kt = some .string) {z : Value} (hz : ∀ w, (zeroValue e).run P w = .ok z w) (hm : MapS W b m) (hmv : a.eval mo = .map (some b)) (x : ByteArray) (hx : a.eval ko = .string x) (hn : getS m x = none)
    (hK : ∀ c w', EntryAt w' b m x c → Chg [b] W w' → wpList P ops Q rest (a.put o.dst (.tuple #[z, .int .i64 (c : Nat)])) w') : wpList P ops Q (o :: rest) a W := by
  refine wpList_plain hgd fun K hK' => ?_
  obtain ⟨c, w', hr, h1, h2⟩ := run_mapEntry_str (P := P) ht hk hz hm x hn
  unfold Oper.wp execOp
  simp only [ho, hmv, hx, Sem.run_bind, Sem.run_pure, Result.andThen_ok, hr]
  exact hK' _ _ (hK c w' h1 h2)
/-- the store there. -/
theorem wpList_entryStore_str {x : ByteArray} {c : Nat} {ops : Array Oper} {rest : List Oper} {o : Oper} {a : Act} {Q : Exit → Act → World → Prop} (hgd : o.guard = none) (t : TypeId) (mo so vo : Operand)
    (ho : o.op = .entryStore t mo so vo) (hm : EntryAt W b m x c) (hmv : a.eval mo = .map (some b)) (hs : a.eval so = .int .i64 (c : Nat)) (v : Value) (hv : a.eval vo = v)
    (hK : ∀ w' u, MapS w' b (putS m x v) → Chg [b] W w' → wpList P ops Q rest (a.put o.dst u) w') : wpList P ops Q (o :: rest) a W := by
  refine wpList_plain hgd fun K hK' => ?_
  obtain ⟨w', hr, h1, h2⟩ := run_entryStore_str (P := P) (t := t) hm v
  unfold Oper.wp execOp
  simp only [ho, hmv, hs, hv, Sem.run_bind, Sem.run_pure, Result.andThen_ok, hr]
  exact hK' _ _ (hK w' _ h1 h2)
end

end Go.Proofs.YtnfabgbidkddhaaGreatDoor
