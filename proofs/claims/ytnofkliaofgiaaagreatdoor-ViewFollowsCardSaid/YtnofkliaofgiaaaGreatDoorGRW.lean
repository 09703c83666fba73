/-
  Acts on an account leave as many mailboxes as may be, and the limits as they are. No program in sight. The walk of pillarboxlaw18.StoreRuns.
-/
import Derived.Test.YtnofkliaofgiaaaGreatDoorGBO
import Derived.Test.YtnofkliaofgiaaaGreatDoorGV
import Derived.Test.YtnofkliaofgiaaaGreatDoorGRM
import Derived.Test.YtnofkliaofgiaaaGreatDoorGDB
import Derived.Test.YtnofkliaofgiaaaGreatDoorGSM
import Derived.Test.YtnofkliaofgiaaaGreatDoorGNS
set_option maxRecDepth 100000
set_option maxHeartbeats 8000000
open Go.Proofs.Tryz
open Go renaming World→Oc
open Go.RowKit renaming Below→Od
open List renaming length_append→Oo,length_singleton→Pf,mem_map_of_mem→OV
open Nat renaming le_trans→Ol
open _root_ renaming List→Ob,if_pos→OG
namespace Go.Proofs.YtnofkliaofgiaaaGreatDoor
section
def lZ (x:Acc):Prop:=(x.zg.length:Int)≤x.N3.xl
theorem tD {x:Acc}(hf:Fit x)(h:lZ x)(r:yx→Bool)(nm:yx)(p:Int):lZ (ue r x nm p).1:=by
  unfold ue
  split
  · exact h
  · split
    · exact h
    · split
      · exact h
      · rename_i h2 _
        have a:xT x nm p 0=0:=by
          by_cases c:xT x nm p 0=0
          · exact c
          · exact absurd c h2
        have d:¬x.N3.xl≤((x.zg.filter fun b=>decide (b.id≠0)).length:Int):=by
          intro e
          unfold xT at a
          split at a
          · cases a
          · split at a
            · cases a
            · first
              |exact absurd a zD
              | (rw[OG e] at a;exact absurd a zD)
        rw[QI hf] at d
        show ((x.zg++[_]).length:Int)≤x.N3.xl
        rw[Oo,Pf]
        push_cast
        omega
theorem KE {x:Acc}(hf:Fit x)(h:lZ x)(a:Uc):lZ (N5 x a).1:=by
  unfold N5
  split
  · exact tD hf h _ _ _
  split
  · unfold yB
    repeat' split
    all_goals first
      |exact h
      | (show ((zI _ _ _).length:Int)≤x.N3.xl
         rw[vA,Xm]
         exact h)
  split
  · unfold vR
    repeat' split
    all_goals first
      |exact h
      | (show ((x.zg.eraseIdx _).length:Int)≤x.N3.xl
         have b:(x.zg.eraseIdx (xC a.id x.zg).toNat).length≤x.zg.length:=List.length_eraseIdx_le _ _
         have c:(x.zg.length:Int)≤x.N3.xl:=h
         omega)
  split
  · unfold ya xO
    repeat' split
    all_goals first
      |exact h
      | (show ((zI _ _ _).length:Int)≤x.N3.xl
         rw[vA,vh]
         exact h)
  split
  · unfold vx VN
    exact EM
  split
  · unfold xn
    split
    · exact h
    · simp only
      repeat' split
      all_goals first
        |exact h
        | (show ((zI _ _ _).length:Int)≤x.N3.xl
           rw[vA,vh]
           exact h)
  split
  · unfold yQ
    exact EM
  · exact h
theorem CO {c:Ud}(h:1≤c.xl):lZ (Yt c):=by
  show ((1:Nat):Int)≤c.xl
  omega
end
section
open Go.Shelf Go.RowKit
attribute [local go_sem ↓] Go.wp_at_zero Go.wp_at_succ
theorem yP.BG {w w1 wr:Oc}{g:Nat}{q:zW}{x:Acc}(h:yP w1 wr g q x)(hb:Od w w w1):yP w wr g q x:=⟨h.at_,zj hb h.below,fun k hk=>Ol hb.size (h.own k hk)⟩
theorem YQ.BG {w w1 wr:Oc}{g:Nat}{q:zW}{x:Acc}(h:YQ w1 wr g q x)(hb:Od w w w1):YQ w wr g q x:=⟨h.at_,zj hb h.below,fun k hk=>Ol hb.size (h.own k hk)⟩
theorem V9.made {w w1 w2 w3 w4:Oc}{g g2:Nat}{q q2:zW}{x:Acc}(hb:Od w w w1)(h:yP w1 w2 g q x)(hb2:Od w2 w2 w3)(h2:YQ w3 w4 g2 q2 x):V9 w w4 g q g2 q2 x:=by
 have a:=h.later (zj hb2 h2.below)
 refine⟨a.BG hb,⟨h2.at_,zj hb a.below,fun k hk=>?_⟩,fun b hb3 hm=>?_⟩
 ·have c:=h2.own k hk
  have d:=hb2.size
  have e:=h.below.size
  have f:=hb.size
  omega
 ·have c:=h2.own b hb3
  have d:=h.at_.lt b hm
  have e:=hb2.size
  omega
theorem LI {w W:Oc}{g g2:Nat}{q q2:zW}{x:Acc}{l:Ob gP}{a:gP}(hB:V9 w W g q g2 q2 x)(hf:Fit x)(hc:lZ x)(ha:∀a∈l,pX w a)(hv:Zq (l.map (·.p))=false)(hm:a∈l) :
  Zj w W g q g2 q2 x a.p.zg a.vb a.p.keys a.vk a.p.name:=by
 obtain⟨j,c⟩:=XT hv
 obtain⟨f,h,i,b⟩:=c a.p (OV hm)
 obtain⟨d,e⟩:=ha a hm
 exact⟨hB,hf,hc,d,O,e,O,fun s hs=>Ol (b s hs) zD,O⟩
end
end Go.Proofs.YtnofkliaofgiaaaGreatDoor
