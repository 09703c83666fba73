/-
  The store's Append, whatever it is asked: what it hands back, and the account behind it, are appendP's.
-/
import Derived.Test.YtmbibhphpjmboaaGreatDoorAppend3
namespace Go.Proofs.YtmbibhphpjmboaaGreatDoor
open Go.Shelf Go.RowKit

theorem append_said (w : World) (g : Nat) (q : Lies) (x : Acc) (is : List Int) (vb : Value) (Sb : List Nat) (ks : Texts) (vk : Value) (Sk : List Nat) (at_ : Int) (t : List UInt8) (h : AppIn w g q x is vb Sb ks vk Sk t) :
    Calls Tryz.prog 19 #[.pointer (some ⟨g, 0, none⟩), vb, vk, .int .i64 at_, .string ⟨t.toArray⟩] w (AppOut w g q (appendP headF x is ks at_ t)) := by
  by_cases h1 : is = [] ∨ at_ < 0 ∨ 253402300799 < at_
  · exact append_bad at_ w g q x is vb Sb ks vk Sk t h h1
  by_cases h2 : (keysF ks).2 = 0
  case neg => exact append_keys at_ w g q x is vb Sb ks vk Sk t h h1 h2
  cases h3 : (rise is).any (fun id => !hasBox x.boxes id) with
  | true => exact append_name at_ w g q x is vb Sb ks vk Sk t h h1 h2 h3
  | false =>
    by_cases h4 : x.cfg.maxMails ≤ (x.mails.length : Int)
    · exact append_full1 at_ w g q x is vb Sb ks vk Sk t h h1 h2 h3 h4
    by_cases h5 : x.cfg.maxSize - x.octets < (t.length : Int)
    · exact append_full2 at_ w g q x is vb Sb ks vk Sk t h h1 h2 h3 h4 h5
    by_cases h6 : x.cfg.maxMod ≤ x.clock
    · exact append_ends at_ w g q x is vb Sb ks vk Sk t h h1 h2 h3 h4 h5 h6
    cases h7 : (rise is).any x.spent with
    | true => exact append_spent at_ w g q x is vb Sb ks vk Sk t h h1 h2 h3 h4 h5 h6 h7
    | false => exact append_ok at_ w g q x is vb Sb ks vk Sk t h h1 h2 h3 h4 h5 h6 h7

end Go.Proofs.YtmbibhphpjmboaaGreatDoor
