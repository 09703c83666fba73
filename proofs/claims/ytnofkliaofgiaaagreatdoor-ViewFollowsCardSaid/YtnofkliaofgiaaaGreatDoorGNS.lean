/-
  The walks of store.New and of the reference's New at any config.
-/
import Derived.Test.YtnofkliaofgiaaaGreatDoorGD
import Derived.Test.YtnofkliaofgiaaaGreatDoorGZ
set_option maxRecDepth 100000
set_option maxHeartbeats 8000000
open Go.Proofs.Tryz
open Exists renaming intro→OA
open Go renaming World→Oc
open Go.Ending renaming returned→RR
open Go.RowKit renaming Below→Od
open Go.Value renaming pointer→RQ,slice→RO
open Go.World renaming size_alloc→O3
open List renaming mem_append→OO,mem_cons→OB
open Nat renaming le_refl→Oq,zero_le→OE
open _root_ renaming decide_eq_false→OD
namespace Go.Proofs.YtnofkliaofgiaaaGreatDoor
open Go.Shelf Go.RowKit Go.Lib
attribute [local go_sem ↓] Go.wp_at_zero Go.wp_at_succ
def RNewOut (w:Oc)(c:Ud)(ok:Bool)(e:Ending)(w':Oc):Prop:=(ok=true→∃g q,e=RR (.tuple #[Y g 0,I 0])∧YQ w w' g q (Yt c))∧(ok=false→e=RR (.tuple #[RQ none,I 1])∧Od w w w')
def msF (m1 m2 m3 m4 m5 m6 m7:Int):Nat→Int
 |0=>m1
 |1=>m2
 |2=>m3
 |3=>m4
 |4=>m5
 |5=>m6
 |_=>m7
theorem J7 (u:yx)(hu:u.length≤140737488351232)(W:Oc):C 81 #[Oa u] W fun e w'=>e=RR (.bool (Y8 u))∧W=w':=by
 have h:=QX ⟨u.toArray⟩ W (by show u.toArray.size≤_;simpa using hu)
 simpa using h
theorem kW {w:Oc}{g gl b:Nat}{c:Ud}(hB:NG w g 123 (Vt ⟨gl,none,some b,none,RO (some (Y b 0)) 1 1,RO none 0 0,[]⟩ (Yt c)).toArray)(hl:Z2 w gl none ⟨c.uF,[],0⟩)(hb:NG w b 73 (uZ ⟨1,Z3,0,1,1,1⟩).toArray):zJ w g ⟨gl,none,some b,none,RO (some (Y b 0)) 1 1,RO none 0 0,[]⟩ (Yt c):=by
 exact EY
theorem Lk (w2:Oc)(c:Ud)(n:Nat)(hn:w2.heap.size=n) :
  zJ (((w2.alloc (.cells (uZ ⟨1,Z3,0,1,1,1⟩).toArray 73)).alloc (.cells #[I c.uF,RO none 0 0,I 0] 164)).alloc (.cells (Vt ⟨n+1,none,some n,none,RO (some (Y n 0)) 1 1,RO none 0 0,[]⟩ (Yt c)).toArray 123)) (n+1+1)
   ⟨n+1,none,some n,none,RO (some (Y n 0)) 1 1,RO none 0 0,[]⟩ (Yt c):=by
 subst hn
 refine kW ?_ ⟨RO none 0 0,?_,Sl.nil _ _ _⟩ ?_
 ·have h:=NG.new ((w2.alloc (.cells (uZ ⟨1,Z3,0,1,1,1⟩).toArray 73)).alloc (.cells #[I c.uF,RO none 0 0,I 0] 164)) 123 (Vt ⟨w2.heap.size+1,none,some w2.heap.size,none,RO (some (Y w2.heap.size 0)) 1 1,RO none 0 0,[]⟩ (Yt c)).toArray
  rw[O3,O3] at h
  exact h
 ·have h:=(NG.new (w2.alloc (.cells (uZ ⟨1,Z3,0,1,1,1⟩).toArray 73)) 164 #[I c.uF,RO none 0 0,I 0]).alloc (.cells (Vt ⟨w2.heap.size+1,none,some w2.heap.size,none,RO (some (Y w2.heap.size 0)) 1 1,RO none 0 0,[]⟩ (Yt c)).toArray 123)
  rw[O3] at h
  exact h
 ·exact((NG.new w2 73 (uZ ⟨1,Z3,0,1,1,1⟩).toArray).alloc _).alloc _
theorem dH (u p:yx)(hu:u.length≤140737488351232)(hp:p.length≤140737488351232)(m1 m2 m3 m4 m5 m6 m7:Int)(k0:Nat)(h7:k0≤7)(hgood:∀j,j < k0→lim (msF m1 m2 m3 m4 m5 m6 m7 j))(hbad:k0 < 7→¬lim (msF m1 m2 m3 m4 m5 m6 m7 k0))(ok:Bool)(hok:ok=(decide (k0=7) && (Y8 u && Y8 p)))(w:Oc) :
  C 29 #[.agg #[Oa u,Oa p,I m1,I m2,I m3,I m4,I m5,I m6,I m7]] w (RNewOut w ⟨u,p,m1,m2,m3,m4,m5,m6,m7⟩ ok):=by
 have d:=fun W=>J7 u hu W
 have l:=fun W=>J7 p hp W
 obtain⟨z,q⟩:∃z,Y8 u=z:=⟨_,rfl⟩
 obtain⟨y,n⟩:∃y,Y8 p=y:=⟨_,rfl⟩
 rw[q] at d hok
 rw[n] at l hok
 have a:∀k,k < 7→((w.alloc (.cells #[Oa u,Oa p,I m1,I m2,I m3,I m4,I m5,I m6,I m7] 66)).alloc (.cells #[I m1,I m2,I m3,I m4,I m5,I m6,I m7] 3)).cell? (Y (w.heap.size+1) k)=some (I (msF m1 m2 m3 m4 m5 m6 m7 k)):=by
  intro k hk
  have P:=NG.new (w.alloc (.cells #[Oa u,Oa p,I m1,I m2,I m3,I m4,I m5,I m6,I m7] 66)) 3 #[I m1,I m2,I m3,I m4,I m5,I m6,I m7]
  have f:=P.cell k
  rw[show (w.alloc (.cells #[Oa u,Oa p,I m1,I m2,I m3,I m4,I m5,I m6,I m7] 66)).heap.size=w.heap.size+1 from by simp] at f
  rw[f]
  rcases k with _|_|_|_|_|_|_|k
  ·rfl
  ·rfl
  ·rfl
  ·rfl
  ·rfl
  ·rfl
  ·rfl
  ·omega
 have x:=V a
 have M:=V hgood
 have c:=V hbad
 have g:=V hok
 have L:=V ((NG.new w 66 #[Oa u,Oa p,I m1,I m2,I m3,I m4,I m5,I m6,I m7]).alloc (.cells #[I m1,I m2,I m3,I m4,I m5,I m6,I m7] 3))
 have dz:=V (zj (zt w (.cells #[Oa u,Oa p,I m1,I m2,I m3,I m4,I m5,I m6,I m7] 66)) (zt _ (.cells #[I m1,I m2,I m3,I m4,I m5,I m6,I m7] 3)))
 clear a hgood hbad hu hp hok q n
 obtain⟨A,v⟩:∃A,msF m1 m2 m3 m4 m5 m6 m7=A:=⟨_,rfl⟩
 rw[v] at x M c
 clear v
 go_enter func29,ntmps29
 go_wp2_with fail
 go_loop [5] (fun i=>∃k:Nat,k≤k0∧i=I k) (fun i=>k0+1 - (intOf i).toNat)
 case atStart=>exact⟨0,OE _,rfl⟩
 case round=>
  obtain⟨k,hk,rfl⟩:=hrel
  by_cases G:k < k0
  ·have f:=x.o k O
   obtain⟨H,J⟩:=M.o k G
   obtain⟨m,t⟩:∃m,A k=m:=⟨_,rfl⟩
   rw[t] at f H J
   have F:(k:Int) < 7:=O
   have S:¬m < 1:=O
   have T:¬2147483647 < m:=O
   clear t
   exact E6
  ·have E:k=k0:=O
   subst E
   by_cases r:k < 7
   ·have f:=x.o k r
    have N:=c.o r
    obtain⟨m,t⟩:∃m,A k=m:=⟨_,rfl⟩
    rw[t] at f N
    have F:(k:Int) < 7:=O
    have Ij:Z (ok=false):=V (by rw[g.o,OD O];rfl)
    clear t
    by_cases S:m < 1
    ·exact G'
    ·have T:2147483647 < m:=by
      unfold lim at N
      omega
     exact G'
   ·have s:k=7:=O
    subst s
    have b:Z (ok=(z && y)):=V (by rw[g.o];simp)
    have Q:=L.o.cell 0
    have R:=L.o.cell 1
    clear x
    cases z with
    |false=>
     have Ij:Z (ok=false):=V (by rw[b.o];rfl)
     go_wp2_with (first
      |(go_at_call 81;(with_reducible refine(d _).mono ?_);rintro e B ⟨rfl,rfl⟩;clear d)
      |fail)
     go_ret2
     exact⟨fun h=>absurd h (by rw[Ij.o];decide),fun _=>⟨rfl,dz.o⟩⟩
    |true=>
     cases y with
     |false=>
      have Ij:Z (ok=false):=V (by rw[b.o];rfl)
      go_wp2_with (first
       |(go_at_call 81;(with_reducible refine(d _).mono ?_);rintro e B ⟨rfl,rfl⟩;clear d)
       |(go_at_call 81;(with_reducible refine(l _).mono ?_);rintro e B ⟨rfl,rfl⟩;clear l)
       |fail)
      go_ret2
      exact⟨fun h=>absurd h (by rw[Ij.o];decide),fun _=>⟨rfl,dz.o⟩⟩
     |true=>
      have D:Z (ok=true):=V (by rw[b.o];rfl)
      go_wp2_with (first
       |(go_at_call 81;(with_reducible refine(d _).mono ?_);rintro e B ⟨rfl,rfl⟩;clear d)
       |(go_at_call 81;(with_reducible refine(l _).mono ?_);rintro e B ⟨rfl,rfl⟩;clear l)
       |fail)
      go_ret2
      have K:=dz.o.size
      simp only[O3] at K
      refine⟨fun _=>⟨w.heap.size+1+1+1+1,⟨w.heap.size+1+1+1,none,some (w.heap.size+1+1),none,.slice (some (Y (w.heap.size+1+1) 0)) 1 1,RO none 0 0,[]⟩,rfl,⟨Lk _ ⟨u,p,m1,m2,m3,m4,m5,m6,m7⟩ (w.heap.size+1+1) zv,((dz.o.alloc zT _).alloc zT _).alloc zT _,fun k hk=>?_⟩⟩,fun h=>absurd h (by rw[D.o];decide)⟩
      exact Fl
end Go.Proofs.YtnofkliaofgiaaaGreatDoor
