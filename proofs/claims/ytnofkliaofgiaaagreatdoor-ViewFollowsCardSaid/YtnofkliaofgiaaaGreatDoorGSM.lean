/-
  The reference's comparison of two lists of emails: two that are the same. What the walk of pillarboxlaw18.StoreLogs calls: the store's Log, first of two lists, a number in a range. The walk of the laws' Same: an account of the program's and one of the reference's that hold the same.
-/
import Derived.Test.YtnofkliaofgiaaaGreatDoorGM
import Derived.Test.YtnofkliaofgiaaaGreatDoorGA
import Derived.Test.YtnofkliaofgiaaaGreatDoorGD
import Derived.Test.YtnofkliaofgiaaaGreatDoorGX
import Derived.Test.YtnofkliaofgiaaaGreatDoorGZ
import Derived.Test.YtnofkliaofgiaaaGreatDoorGQ
import Derived.Test.YtnofkliaofgiaaaGreatDoorGC
import Derived.Deep.QuietTactic
import Derived.BigQuiet
import Derived.Deep.DeepCutAuto
import Derived.Deep.CutBlock
import Derived.Deep.RegionHeld3
set_option maxRecDepth 100000
set_option maxHeartbeats 8000000
open Go.Proofs.Tryz
open Go renaming Value→Oe,World→Oc
open Go.Value renaming slice→RO
open Go.Value.slice renaming inj→OM
open List renaming getElem_mem→Oj
open Nat renaming add_assoc→O1
open _root_ renaming List→Ob
namespace Go.Proofs.YtnofkliaofgiaaaGreatDoor
open Go.Shelf Go.RowKit
attribute [local go_sem ↓] Go.wp_at_zero Go.wp_at_succ
theorem VD.at_ {w:Oc}{S:Ob Nat}{v:Oe}{l:Ob zR}(h:VD w S v l):∃A c,v=RO A l.length c∧(∀k (hk:k < l.length),∃b off,A=some ⟨b,off,none⟩∧b < w.heap.size∧∃m:xd,m.p=l[k]∧xB w S m∧∀j,j < 8→w.cell? (Y b (off+k * 8+j))=(xV m)[j]?):=by
 obtain⟨f,d,n,t⟩:=h
 obtain⟨A,c,o,_,_⟩:=n.form
 have s:f.length=l.length:=by rw[←d];simp
 refine⟨A,c,by rw[←s];exact o,fun k hk=>?_⟩
 obtain⟨b,off,q,e,_,_,i,_,g⟩:=n.at_ O
 rw[o] at e
 have r:=(OM e).1
 have a:k < f.length:=O
 refine⟨b,off,r,i,f[k],?_,t _ (Oj a),fun j hj=>?_⟩
 ·subst d
  simp
 ·rw[O1,g (k * 8+j) O,yv xr f k j a hj]
end Go.Proofs.YtnofkliaofgiaaaGreatDoor
