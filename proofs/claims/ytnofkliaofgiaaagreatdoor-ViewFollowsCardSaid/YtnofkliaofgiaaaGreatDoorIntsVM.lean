/-
  The walk of pillarboxref17.Ints, where the two are one.
-/
import Derived.Test.YtnofkliaofgiaaaGreatDoorGD
import Derived.Test.YtnofkliaofgiaaaGreatDoorGC
import Derived.Deep.QuietTactic
set_option maxRecDepth 100000
set_option maxHeartbeats 8000000
open Go.Proofs.Tryz
open Exists renaming intro→OA
open Go renaming Value→Oe,World→Oc
open Go.Ending renaming returned→RR
open Go.RowKit renaming Below→Od
open Go.RowKit.Below renaming refl→Ok
open Nat renaming zero_le→OE
open _root_ renaming List→Ob
namespace Go.Proofs.YtnofkliaofgiaaaGreatDoor
open Go.RowKit
attribute [local go_sem ↓] Go.wp_at_zero Go.wp_at_succ
theorem iF {B:Nat}{w w':Oc}(h:Od B w w')(n:Nat):Od B w (w'.drewN n):=⟨h.os,h.tape,h.output,h.size,h.block⟩
theorem jD (w:Oc)(va vb:Oe)(n:Nat)(a:Ob Int)(hn:a.length=n)(ha:NN w [] 1 va n (a.map yJ))(hb:NN w [] 1 vb n (a.map yJ)) :
  C 14 #[va,vb] w fun e w'=>e=RR (.bool true)∧Od w w w':=by
 obtain⟨A,N,rfl,D,r⟩:=ha.form
 have L:n≤9223372036854775807:=by
  unfold maxLen at r
  omega
 obtain⟨B,P,rfl,_,_⟩:=hb.form
 have E:=V ha
 have F:=V hb
 have HN:=V hn
 clear hn ha hb
 go_enter func14,ntmps14
 go_wp2_with fail
 go_loopw [5] (fun i wr=>∃(k:Nat),k≤n∧i=I k∧Z (Od w w wr)) (fun i _=>n - (intOf i).toNat)
 case atStart=>exact⟨0,OE _,rfl,V (Ok _ _)⟩
 case round=>
  obtain⟨k,Q,rfl,l⟩:=hrel
  by_cases af:k < n
  ·have s:k < a.length:=Zg
   have M:=l.o.size
   obtain⟨x,f,G,u,_,_,m,_,b⟩:=E.o.at_ O
   injection u with hva1 hva2 hva3
   subst hva1
   obtain⟨y,g,H,v,_,_,q,_,d⟩:=F.o.at_ O
   injection v with hvb1 hvb2 hvb3
   subst hvb1
   clear hva2 hva3 hvb2 hvb3
   have h:(a.map yJ)[k]?=some (I a[k]):=by simp[yJ,s]
   have J:wr.cell? (Y x (f+k))=some (I a[k]):=(l.o.cell (p:=⟨x,f+k,none⟩) m).trans ((b k O).trans h)
   have K:wr.cell? (Y y (g+k))=some (I a[k]):=(l.o.cell (p:=⟨y,g+k,none⟩) q).trans ((d k O).trans h)
   clear b d h
   generalize a[k]=z at J K
   go_wp2_with fail
   go_quiet (fail)
   go_wp2
   have j:=fun c=>V (iF l.o c)
   refine⟨?_,zV⟩
   first|exact⟨k+1,O,zE,j nq⟩|((repeat apply OA);exact⟨⟨k+1,O,zE,j nq⟩,rfl⟩)
  ·have t:k=n:=O
   subst t
   go_wp2
   go_ret
   exact⟨rfl,l.o⟩
end Go.Proofs.YtnofkliaofgiaaaGreatDoor
