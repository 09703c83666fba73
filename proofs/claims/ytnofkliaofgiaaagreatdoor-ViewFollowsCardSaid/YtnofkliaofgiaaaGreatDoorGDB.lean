/-
  The walk of the laws' Do: an act on an account of the program's and on one of the reference's. Printed by gen_both2.py.
-/
import Derived.Test.YtnofkliaofgiaaaGreatDoorGBO
import Derived.Test.YtnofkliaofgiaaaGreatDoorGRM
import Derived.Test.YtnofkliaofgiaaaGreatDoorGRB
import Derived.Test.YtnofkliaofgiaaaGreatDoorGH
import Derived.Test.YtnofkliaofgiaaaGreatDoorGPL
import Derived.Deep.RegionHeld3
set_option maxRecDepth 100000
set_option maxHeartbeats 8000000
open Go.Proofs.Tryz
open Go renaming FuncId→PR,Value→Oe,World→Oc
open Go.Ending renaming returned→RR
open Go.RowKit renaming Below→Od
open Go.RowKit.Below renaming refl→Ok
open Go.Value renaming slice→RO,string→RP
open _root_ renaming List→Ob
namespace Go.Proofs.YtnofkliaofgiaaaGreatDoor
open Go.Shelf Go.RowKit
attribute [local go_sem ↓] Go.wp_at_zero Go.wp_at_succ
structure Way (w wr w1:Oc)(g:Nat)(q:zW)(g2:Nat)(q2:zW)(x:Acc)(op id at_:Int)(nm:yx)(vb vk:Oe):Prop where
 both:V9 w wr g q g2 q2 x
 b1:V9 w w1 g q g2 q2 x
 bl:Od wr wr w1
 own:wr.heap.size∉q.own g
 own2:wr.heap.size∉q2.own g2
 blk:NG w1 wr.heap.size 40 #[I op,I id,I at_,Oa nm,vb,vk]
section
variable {w wr w1 W W2:Oc} {g g2:Nat} {q q2 q' q3:zW} {x x2 x3:Acc} {op id at_:Int} {nm:yx} {vb vk:Oe}
theorem Qw (h:NG W wr.heap.size 40 #[I op,I id,I at_,Oa nm,vb,vk]):W.cell? (Y wr.heap.size 0)=some (I op)∧W.cell? (Y wr.heap.size 1)=some (I id)∧W.cell? (Y wr.heap.size 2)=some (I at_)∧W.cell? (Y wr.heap.size 3)=some (RP ⟨nm.toArray⟩)∧W.cell? (Y wr.heap.size 4)=some (vb)∧W.cell? (Y wr.heap.size 5)=some (vk):=
 ⟨h.cell 0,h.cell 1,h.cell 2,h.cell 3,h.cell 4,h.cell 5⟩
theorem Way.here (h:Way w wr w1 g q g2 q2 x op id at_ nm vb vk)(hb:Od w1 w1 W):W.cell? (Y wr.heap.size 0)=some (I op)∧W.cell? (Y wr.heap.size 1)=some (I id)∧W.cell? (Y wr.heap.size 2)=some (I at_)∧W.cell? (Y wr.heap.size 3)=some (RP ⟨nm.toArray⟩)∧W.cell? (Y wr.heap.size 4)=some (vb)∧W.cell? (Y wr.heap.size 5)=some (vk):=Qw (h.blk.below hb h.blk.lt)
theorem Way.t1 (h:Way w wr w1 g q g2 q2 x op id at_ nm vb vk)(ht:zL w1 W g q x2 q'):W.cell? (Y wr.heap.size 0)=some (I op)∧W.cell? (Y wr.heap.size 1)=some (I id)∧W.cell? (Y wr.heap.size 2)=some (I at_)∧W.cell? (Y wr.heap.size 3)=some (RP ⟨nm.toArray⟩)∧W.cell? (Y wr.heap.size 4)=some (vb)∧W.cell? (Y wr.heap.size 5)=some (vk):=Qw (h.blk.N4 ht.N4 h.own)
theorem Way.t2 (h:Way w wr w1 g q g2 q2 x op id at_ nm vb vk)(ht:zL w1 W g q x2 q')(hr:zK W W2 g2 q2 x3 q3):W2.cell? (Y wr.heap.size 0)=some (I op)∧W2.cell? (Y wr.heap.size 1)=some (I id)∧W2.cell? (Y wr.heap.size 2)=some (I at_)∧W2.cell? (Y wr.heap.size 3)=some (RP ⟨nm.toArray⟩)∧W2.cell? (Y wr.heap.size 4)=some (vb)∧W2.cell? (Y wr.heap.size 5)=some (vk):=Qw ((h.blk.N4 ht.N4 h.own).N4 hr.N4 h.own2)
theorem Zj.way {bs:Ob Int}{ks:yF}(hin:Zj w wr g q g2 q2 x bs vb ks vk nm)(op id at_:Int)(nm:yx):Way w wr (wr.alloc (.cells #[I op,I id,I at_,Oa nm,vb,vk] 40)) g q g2 q2 x op id at_ nm vb vk:=
 ⟨hin.both,hin.both.later (zt _ _),zt _ _,fun hm=>Nat.lt_irrefl _ (hin.both.st.at_.lt _ hm),fun hm=>Nat.lt_irrefl _ (hin.both.rf.at_.lt _ hm),NG.new _ _ _⟩
theorem Way.prog (h:Way w wr w1 g q g2 q2 x op id at_ nm vb vk){f:PR}{args:Array Oe}{v:Oe}(hc:∀W,Od wr wr W→C f args W fun e w'=>e=RR v∧∃q',zL W w' g q x2 q')(W:Oc)(hb:Od w1 w1 W):C f args W fun e w'=>e=RR v∧∃q',zL w1 w' g q x2 q':=by
 refine(hc W (zj h.bl hb)).mono ?_
 rintro e w' ⟨a,q',b⟩
 exact⟨a,q',(zL.of_below h.b1.st.at_ hb).trans b⟩
end
theorem both_0 (w wr:Oc)(g:Nat)(q:zW)(g2:Nat)(q2:zW)(x:Acc)(op id at_:Int)(nm:yx)(bs:Ob Int)(ks:yF)(vb vk:Oe)(hin:Zj w wr g q g2 q2 x bs vb ks vk nm)(hop:op=0) :
  C 17 #[Y g 0,Y g2 0,.agg #[I op,I id,I at_,RP ⟨nm.toArray⟩,vb,vk]] wr (uX w wr g q g2 q2 (N5 x ⟨op,id,at_,nm,bs,ks⟩).1):=by
 subst hop
 rw[show (N5 x ⟨0,id,at_,nm,bs,ks⟩).1=(ue zY x nm at_).1 from by simp[N5]]
 obtain⟨y,B,rfl,_,_⟩:=hin.zg.form
 obtain⟨z,D,rfl,_,_⟩:=hin.keys.form
 obtain⟨s,j⟩:∃s,bs.length=s:=⟨_,rfl⟩
 obtain⟨t,k⟩:∃t,ks.length=t:=⟨_,rfl⟩
 rw[j,k] at hin ⊢
 obtain⟨i,h⟩:∃i:Oc,i=wr.alloc (.cells #[I 0,I id,I at_,Oa nm,RO y s B,RO z t D] 40):=⟨_,rfl⟩
 have a:=hin.way 0 id at_ nm
 rw[←h] at a
 have p:∀W,Od i i W→_:=a.prog (f:=38) fun W hb=>qY W g q x nm at_ (hin.app hb).at_ (hin.app hb).fit (hin.app hb).text
 have d:=fun W q' (b:zL i W g q (ue zY x nm at_).1 q')=>Dd W g2 q2 x nm at_ (hin.UD (a.b1.st.turned b).below (a.b1.half b)).at_ (hin.UD (a.b1.st.turned b).below (a.b1.half b)).fit (hin.UD (a.b1.st.turned b).below (a.b1.half b)).text
 obtain⟨⟨T,L,P⟩,c⟩:∃r,ue zY x nm at_=r:=⟨_,rfl⟩
 simp only[c] at p d
 rw[c]
 have A:=V p
 have m:=V d
 have l:=V a
 clear p d a hin j k c
 go_enter func17,ntmps17
 go_upto_region 3 with(fail)
 rw[←h]
 clear h
 obtain⟨E,F,G,H,J,K⟩:=l.o.here (Ok _ i)
 go_wp2_with (first
  |(go_at_call 38;refine(A.o _ uO).mono ?_;rintro e Q ⟨rfl,M,b⟩;have u:=V b;clear E F G H J K;obtain⟨U,X,z2,z3,z4,z5⟩:=l.o.t1 b;clear b)
  |(go_at_call 57;refine(m.o _ _ u.o).mono ?_;rintro e R ⟨rfl,N,v⟩;have n:=V v;clear v)
  |(go_at_call 9;refine(Zd _ _).mono ?_;rintro e S ⟨rfl,rfl⟩)
  |fail)
 go_ret
 exact l.o.both.o l.o.bl u.o n.o
theorem both_1 (w wr:Oc)(g:Nat)(q:zW)(g2:Nat)(q2:zW)(x:Acc)(op id at_:Int)(nm:yx)(bs:Ob Int)(ks:yF)(vb vk:Oe)(hin:Zj w wr g q g2 q2 x bs vb ks vk nm)(hop:op=1) :
  C 17 #[Y g 0,Y g2 0,.agg #[I op,I id,I at_,RP ⟨nm.toArray⟩,vb,vk]] wr (uX w wr g q g2 q2 (N5 x ⟨op,id,at_,nm,bs,ks⟩).1):=by
 subst hop
 rw[show (N5 x ⟨1,id,at_,nm,bs,ks⟩).1=(yB zY x id nm at_).1 from by simp[N5]]
 obtain⟨s,u,rfl,_,_⟩:=hin.zg.form
 obtain⟨t,y,rfl,_,_⟩:=hin.keys.form
 obtain⟨l,j⟩:∃l,bs.length=l:=⟨_,rfl⟩
 obtain⟨m,k⟩:∃m,ks.length=m:=⟨_,rfl⟩
 rw[j,k] at hin ⊢
 obtain⟨i,h⟩:∃i:Oc,i=wr.alloc (.cells #[I 1,I id,I at_,Oa nm,RO s l u,RO t m y] 40):=⟨_,rfl⟩
 have a:=hin.way 1 id at_ nm
 rw[←h] at a
 have p:∀W,Od i i W→_:=a.prog (f:=58) fun W hb=>nT W g q x id nm at_ (hin.app hb).at_ (hin.app hb).fit (hin.app hb).text
 have d:=fun W q' (b:zL i W g q (yB zY x id nm at_).1 q')=>od W g2 q2 x id nm at_ (hin.UD (a.b1.st.turned b).below (a.b1.half b)).at_ (hin.UD (a.b1.st.turned b).below (a.b1.half b)).fit hin.room (hin.UD (a.b1.st.turned b).below (a.b1.half b)).text
 obtain⟨⟨A,K⟩,c⟩:∃r,yB zY x id nm at_=r:=⟨_,rfl⟩
 simp only[c] at p d
 rw[c]
 have B:=V p
 have n:=V d
 have HW:=V a
 clear p d a hin j k c
 go_enter func17,ntmps17
 go_upto_region 7 with(fail)
 rw[←h]
 clear h
 obtain⟨D,E,F,G,H,J⟩:=HW.o.here (Ok _ i)
 go_cut [6] (fun v wx=>v=.bool true∧∃pz qa W,Z (zL i W g q A pz)∧Z (zK W wx g2 q2 A qa))
 case first=>
  go_region_held3 (fun W=>W.cell? (Y wr.heap.size 0)=some (I 1)∧W.cell? (Y wr.heap.size 1)=some (I id)∧W.cell? (Y wr.heap.size 2)=some (I at_)∧W.cell? (Y wr.heap.size 3)=some (RP ⟨nm.toArray⟩)∧W.cell? (Y wr.heap.size 4)=some (RO s l u)∧W.cell? (Y wr.heap.size 5)=some (RO t m y))
   (first
    |exact HW.o.here (Ok _ _)
    |exact HW.o.here (zG _)
    |exact HW.o.t1 HT.o
    |exact HW.o.t2 HT.o ic.o
    |go_keep)
   (first
    |(go_at_call 58;refine(B.o _ uO).mono ?_;rintro e L ⟨rfl,pz,b⟩;have HT:=V b;clear b)
    |(go_at_call 59;refine(n.o _ _ HT.o).mono ?_;rintro e M ⟨rfl,qa,z⟩;have ic:=V z;clear z)
    |(go_at_call 9;refine(Zd _ _).mono ?_;rintro e N ⟨rfl,rfl⟩)
    |fail)
  all_goals
   go_wp2_with fail
   go_meet
   exact⟨zv,pz,qa,_,HT,ic⟩
 case rest=>
  exact VZ
theorem both_2 (w wr:Oc)(g:Nat)(q:zW)(g2:Nat)(q2:zW)(x:Acc)(op id at_:Int)(nm:yx)(bs:Ob Int)(ks:yF)(vb vk:Oe)(hin:Zj w wr g q g2 q2 x bs vb ks vk nm)(hop:op=2) :
  C 17 #[Y g 0,Y g2 0,.agg #[I op,I id,I at_,RP ⟨nm.toArray⟩,vb,vk]] wr (uX w wr g q g2 q2 (N5 x ⟨op,id,at_,nm,bs,ks⟩).1):=by
 subst hop
 rw[show (N5 x ⟨2,id,at_,nm,bs,ks⟩).1=(vR x id).1 from by simp[N5]]
 obtain⟨s,u,rfl,_,_⟩:=hin.zg.form
 obtain⟨t,y,rfl,_,_⟩:=hin.keys.form
 obtain⟨l,j⟩:∃l,bs.length=l:=⟨_,rfl⟩
 obtain⟨m,k⟩:∃m,ks.length=m:=⟨_,rfl⟩
 rw[j,k] at hin ⊢
 obtain⟨i,h⟩:∃i:Oc,i=wr.alloc (.cells #[I 2,I id,I at_,Oa nm,RO s l u,RO t m y] 40):=⟨_,rfl⟩
 have a:=hin.way 2 id at_ nm
 rw[←h] at a
 have p:∀W,Od i i W→_:=a.prog (f:=60) fun W hb=>AW W g q x id (hin.app hb).at_ (hin.app hb).fit
 have c:=fun W q' (d:zL i W g q (vR x id).1 q')=>C1 W g2 q2 x id (hin.UD (a.b1.st.turned d).below (a.b1.half d)).at_ (hin.UD (a.b1.st.turned d).below (a.b1.half d)).fit
 obtain⟨⟨A,K⟩,b⟩:∃r,vR x id=r:=⟨_,rfl⟩
 simp only[b] at p c
 rw[b]
 have B:=V p
 have n:=V c
 have HW:=V a
 clear p c a hin j k b
 go_enter func17,ntmps17
 go_upto_region 9 with(fail)
 rw[←h]
 clear h
 obtain⟨D,E,F,G,H,J⟩:=HW.o.here (Ok _ i)
 go_cut [6] (fun v wx=>v=.bool true∧∃pz qa W,Z (zL i W g q A pz)∧Z (zK W wx g2 q2 A qa))
 case first=>
  go_region_held3 (fun W=>W.cell? (Y wr.heap.size 0)=some (I 2)∧W.cell? (Y wr.heap.size 1)=some (I id)∧W.cell? (Y wr.heap.size 2)=some (I at_)∧W.cell? (Y wr.heap.size 3)=some (RP ⟨nm.toArray⟩)∧W.cell? (Y wr.heap.size 4)=some (RO s l u)∧W.cell? (Y wr.heap.size 5)=some (RO t m y))
   (first
    |exact HW.o.here (Ok _ _)
    |exact HW.o.here (zG _)
    |exact HW.o.t1 HT.o
    |exact HW.o.t2 HT.o ic.o
    |go_keep)
   (first
    |(go_at_call 60;refine(B.o _ uO).mono ?_;rintro e L ⟨rfl,pz,d⟩;have HT:=V d;clear d)
    |(go_at_call 61;refine(n.o _ _ HT.o).mono ?_;rintro e M ⟨rfl,qa,z⟩;have ic:=V z;clear z)
    |(go_at_call 9;refine(Zd _ _).mono ?_;rintro e N ⟨rfl,rfl⟩)
    |fail)
  all_goals
   go_wp2_with fail
   go_meet
   exact⟨zv,pz,qa,_,HT,ic⟩
 case rest=>
  exact VZ
theorem both_3 (w wr:Oc)(g:Nat)(q:zW)(g2:Nat)(q2:zW)(x:Acc)(op id at_:Int)(nm:yx)(bs:Ob Int)(ks:yF)(vb vk:Oe)(hin:Zj w wr g q g2 q2 x bs vb ks vk nm)(hop:op=3) :
  C 17 #[Y g 0,Y g2 0,.agg #[I op,I id,I at_,RP ⟨nm.toArray⟩,vb,vk]] wr (uX w wr g q g2 q2 (N5 x ⟨op,id,at_,nm,bs,ks⟩).1):=by
 subst hop
 rw[show (N5 x ⟨3,id,at_,nm,bs,ks⟩).1=(ya yL x bs ks at_ nm).1 from by simp[N5]]
 obtain⟨c,e,rfl,_,_⟩:=hin.zg.form
 obtain⟨d,f,rfl,_,_⟩:=hin.keys.form
 obtain⟨a,hnb⟩:∃a,bs.length=a:=⟨_,rfl⟩
 obtain⟨b,Es⟩:∃b,ks.length=b:=⟨_,rfl⟩
 rw[hnb,Es] at hin ⊢
 obtain⟨w1,qh⟩:∃w1:Oc,w1=wr.alloc (.cells #[I 3,I id,I at_,Oa nm,RO c a e,RO d b f] 40):=⟨_,rfl⟩
 have hW:=hin.way 3 id at_ nm
 exact ET
theorem both_4 (w wr:Oc)(g:Nat)(q:zW)(g2:Nat)(q2:zW)(x:Acc)(op id at_:Int)(nm:yx)(bs:Ob Int)(ks:yF)(vb vk:Oe)(hin:Zj w wr g q g2 q2 x bs vb ks vk nm)(hop:op=4) :
  C 17 #[Y g 0,Y g2 0,.agg #[I op,I id,I at_,RP ⟨nm.toArray⟩,vb,vk]] wr (uX w wr g q g2 q2 (N5 x ⟨op,id,at_,nm,bs,ks⟩).1):=by
 subst hop
 rw[show (N5 x ⟨4,id,at_,nm,bs,ks⟩).1=(ya yL x bs ks at_ nm).1 from by simp[N5]]
 obtain⟨c,e,rfl,_,_⟩:=hin.zg.form
 obtain⟨d,f,rfl,_,_⟩:=hin.keys.form
 obtain⟨a,hnb⟩:∃a,bs.length=a:=⟨_,rfl⟩
 obtain⟨b,Es⟩:∃b,ks.length=b:=⟨_,rfl⟩
 rw[hnb,Es] at hin ⊢
 obtain⟨w1,qh⟩:∃w1:Oc,w1=wr.alloc (.cells #[I 4,I id,I at_,Oa nm,RO c a e,RO d b f] 40):=⟨_,rfl⟩
 have hW:=hin.way 4 id at_ nm
 exact ET
theorem both_5 (w wr:Oc)(g:Nat)(q:zW)(g2:Nat)(q2:zW)(x:Acc)(op id at_:Int)(nm:yx)(bs:Ob Int)(ks:yF)(vb vk:Oe)(hin:Zj w wr g q g2 q2 x bs vb ks vk nm)(hop:op=5) :
  C 17 #[Y g 0,Y g2 0,.agg #[I op,I id,I at_,RP ⟨nm.toArray⟩,vb,vk]] wr (uX w wr g q g2 q2 (N5 x ⟨op,id,at_,nm,bs,ks⟩).1):=by
 subst hop
 rw[show (N5 x ⟨5,id,at_,nm,bs,ks⟩).1=(ya yL x bs ks at_ nm).1 from by simp[N5]]
 obtain⟨c,e,rfl,_,_⟩:=hin.zg.form
 obtain⟨d,f,rfl,_,_⟩:=hin.keys.form
 obtain⟨a,hnb⟩:∃a,bs.length=a:=⟨_,rfl⟩
 obtain⟨b,Es⟩:∃b,ks.length=b:=⟨_,rfl⟩
 rw[hnb,Es] at hin ⊢
 obtain⟨w1,qh⟩:∃w1:Oc,w1=wr.alloc (.cells #[I 5,I id,I at_,Oa nm,RO c a e,RO d b f] 40):=⟨_,rfl⟩
 have hW:=hin.way 5 id at_ nm
 exact ET
theorem both_6 (w wr:Oc)(g:Nat)(q:zW)(g2:Nat)(q2:zW)(x:Acc)(op id at_:Int)(nm:yx)(bs:Ob Int)(ks:yF)(vb vk:Oe)(hin:Zj w wr g q g2 q2 x bs vb ks vk nm)(hop:op=6) :
  C 17 #[Y g 0,Y g2 0,.agg #[I op,I id,I at_,RP ⟨nm.toArray⟩,vb,vk]] wr (uX w wr g q g2 q2 (N5 x ⟨op,id,at_,nm,bs,ks⟩).1):=by
 subst hop
 rw[show (N5 x ⟨6,id,at_,nm,bs,ks⟩).1=(vx x id ks).1 from by simp[N5]]
 obtain⟨p,t,rfl,_,_⟩:=hin.zg.form
 obtain⟨s,u,rfl,_,_⟩:=hin.keys.form
 obtain⟨l,j⟩:∃l,bs.length=l:=⟨_,rfl⟩
 obtain⟨nk,k⟩:∃nk,ks.length=nk:=⟨_,rfl⟩
 rw[j,k] at hin ⊢
 obtain⟨i,h⟩:∃i:Oc,i=wr.alloc (.cells #[I 6,I id,I at_,Oa nm,RO p l t,RO s nk u] 40):=⟨_,rfl⟩
 have a:=hin.way 6 id at_ nm
 rw[←h] at a
 have n:∀W,Od i i W→_:=a.prog (f:=35) fun W hb=>QO W g q x id ks _ [] ⟨(hin.app hb).at_,(hin.app hb).fit,(hin.app hb).keys,(hin.app hb).nk,(hin.app hb).short⟩
 have d:=fun W q' (b:zL i W g q (vx x id ks).1 q')=>kR W g2 q2 x id ks _ [] ⟨(hin.UD (a.b1.st.turned b).below (a.b1.half b)).at_,(hin.UD (a.b1.st.turned b).below (a.b1.half b)).fit,(hin.UD (a.b1.st.turned b).below (a.b1.half b)).keys,(hin.UD (a.b1.st.turned b).below (a.b1.half b)).nk,(hin.UD (a.b1.st.turned b).below (a.b1.half b)).short⟩
 obtain⟨⟨z,J⟩,c⟩:∃r,vx x id ks=r:=⟨_,rfl⟩
 simp only[c] at n d
 rw[c]
 have A:=V n
 have m:=V d
 have HW:=V a
 clear n d a hin j k c
 go_enter func17,ntmps17
 go_upto_region 18 with(fail)
 rw[←h]
 clear h
 obtain⟨B,D,E,F,G,H⟩:=HW.o.here (Ok _ i)
 go_cut [6] (fun v wx=>v=.bool true∧∃pz qa W,Z (zL i W g q z pz)∧Z (zK W wx g2 q2 z qa))
 case first=>
  go_region_held3 (fun W=>W.cell? (Y wr.heap.size 0)=some (I 6)∧W.cell? (Y wr.heap.size 1)=some (I id)∧W.cell? (Y wr.heap.size 2)=some (I at_)∧W.cell? (Y wr.heap.size 3)=some (RP ⟨nm.toArray⟩)∧W.cell? (Y wr.heap.size 4)=some (RO p l t)∧W.cell? (Y wr.heap.size 5)=some (RO s nk u))
   (first
    |exact HW.o.here (Ok _ _)
    |exact HW.o.here (zG _)
    |exact HW.o.t1 HT.o
    |exact HW.o.t2 HT.o ic.o
    |go_keep)
   (first
    |(go_at_call 35;refine(A.o _ uO).mono ?_;rintro e K ⟨rfl,pz,b⟩;have HT:=V b;clear b)
    |(go_at_call 63;refine(m.o _ _ HT.o).mono ?_;rintro e L ⟨rfl,qa,y⟩;have ic:=V y;clear y)
    |(go_at_call 9;refine(Zd _ _).mono ?_;rintro e M ⟨rfl,rfl⟩)
    |fail)
  all_goals
   go_wp2_with fail
   go_meet
   exact⟨zv,pz,qa,_,HT,ic⟩
 case rest=>
  exact VZ
theorem both_7 (w wr:Oc)(g:Nat)(q:zW)(g2:Nat)(q2:zW)(x:Acc)(op id at_:Int)(nm:yx)(bs:Ob Int)(ks:yF)(vb vk:Oe)(hin:Zj w wr g q g2 q2 x bs vb ks vk nm)(hop:op=7) :
  C 17 #[Y g 0,Y g2 0,.agg #[I op,I id,I at_,RP ⟨nm.toArray⟩,vb,vk]] wr (uX w wr g q g2 q2 (N5 x ⟨op,id,at_,nm,bs,ks⟩).1):=by
 subst hop
 rw[show (N5 x ⟨7,id,at_,nm,bs,ks⟩).1=(vx x id ks).1 from by simp[N5]]
 obtain⟨p,t,rfl,_,_⟩:=hin.zg.form
 obtain⟨s,u,rfl,_,_⟩:=hin.keys.form
 obtain⟨l,j⟩:∃l,bs.length=l:=⟨_,rfl⟩
 obtain⟨nk,k⟩:∃nk,ks.length=nk:=⟨_,rfl⟩
 rw[j,k] at hin ⊢
 obtain⟨i,h⟩:∃i:Oc,i=wr.alloc (.cells #[I 7,I id,I at_,Oa nm,RO p l t,RO s nk u] 40):=⟨_,rfl⟩
 have a:=hin.way 7 id at_ nm
 rw[←h] at a
 have n:∀W,Od i i W→_:=a.prog (f:=35) fun W hb=>QO W g q x id ks _ [] ⟨(hin.app hb).at_,(hin.app hb).fit,(hin.app hb).keys,(hin.app hb).nk,(hin.app hb).short⟩
 have d:=fun W q' (b:zL i W g q (vx x id ks).1 q')=>kR W g2 q2 x id ks _ [] ⟨(hin.UD (a.b1.st.turned b).below (a.b1.half b)).at_,(hin.UD (a.b1.st.turned b).below (a.b1.half b)).fit,(hin.UD (a.b1.st.turned b).below (a.b1.half b)).keys,(hin.UD (a.b1.st.turned b).below (a.b1.half b)).nk,(hin.UD (a.b1.st.turned b).below (a.b1.half b)).short⟩
 obtain⟨⟨z,J⟩,c⟩:∃r,vx x id ks=r:=⟨_,rfl⟩
 simp only[c] at n d
 rw[c]
 have A:=V n
 have m:=V d
 have HW:=V a
 clear n d a hin j k c
 go_enter func17,ntmps17
 go_upto_region 18 with(fail)
 rw[←h]
 clear h
 obtain⟨B,D,E,F,G,H⟩:=HW.o.here (Ok _ i)
 go_cut [6] (fun v wx=>v=.bool true∧∃pz qa W,Z (zL i W g q z pz)∧Z (zK W wx g2 q2 z qa))
 case first=>
  go_region_held3 (fun W=>W.cell? (Y wr.heap.size 0)=some (I 7)∧W.cell? (Y wr.heap.size 1)=some (I id)∧W.cell? (Y wr.heap.size 2)=some (I at_)∧W.cell? (Y wr.heap.size 3)=some (RP ⟨nm.toArray⟩)∧W.cell? (Y wr.heap.size 4)=some (RO p l t)∧W.cell? (Y wr.heap.size 5)=some (RO s nk u))
   (first
    |exact HW.o.here (Ok _ _)
    |exact HW.o.here (zG _)
    |exact HW.o.t1 HT.o
    |exact HW.o.t2 HT.o ic.o
    |go_keep)
   (first
    |(go_at_call 35;refine(A.o _ uO).mono ?_;rintro e K ⟨rfl,pz,b⟩;have HT:=V b;clear b)
    |(go_at_call 63;refine(m.o _ _ HT.o).mono ?_;rintro e L ⟨rfl,qa,y⟩;have ic:=V y;clear y)
    |(go_at_call 9;refine(Zd _ _).mono ?_;rintro e M ⟨rfl,rfl⟩)
    |fail)
  all_goals
   go_wp2_with fail
   go_meet
   exact⟨zv,pz,qa,_,HT,ic⟩
 case rest=>
  exact VZ
theorem both_8 (w wr:Oc)(g:Nat)(q:zW)(g2:Nat)(q2:zW)(x:Acc)(op id at_:Int)(nm:yx)(bs:Ob Int)(ks:yF)(vb vk:Oe)(hin:Zj w wr g q g2 q2 x bs vb ks vk nm)(hop:op=8) :
  C 17 #[Y g 0,Y g2 0,.agg #[I op,I id,I at_,RP ⟨nm.toArray⟩,vb,vk]] wr (uX w wr g q g2 q2 (N5 x ⟨op,id,at_,nm,bs,ks⟩).1):=by
 subst hop
 rw[show (N5 x ⟨8,id,at_,nm,bs,ks⟩).1=(xn x id bs).1 from by simp[N5]]
 obtain⟨p,t,rfl,_,_⟩:=hin.zg.form
 obtain⟨s,u,rfl,_,_⟩:=hin.keys.form
 obtain⟨nb,j⟩:∃nb,bs.length=nb:=⟨_,rfl⟩
 obtain⟨l,k⟩:∃l,ks.length=l:=⟨_,rfl⟩
 rw[j,k] at hin ⊢
 obtain⟨i,h⟩:∃i:Oc,i=wr.alloc (.cells #[I 8,I id,I at_,Oa nm,RO p nb t,RO s l u] 40):=⟨_,rfl⟩
 have a:=hin.way 8 id at_ nm
 rw[←h] at a
 have n:∀W,Od i i W→_:=a.prog (f:=36) fun W hb=>Jb W g q x id bs _ [] (hin.app hb).at_ (hin.app hb).fit (hin.app hb).zg (hin.app hb).nb
 have d:=fun W q' (b:zL i W g q (xn x id bs).1 q')=>dI W g2 q2 x id bs _ [] ⟨(hin.UD (a.b1.st.turned b).below (a.b1.half b)).at_,(hin.UD (a.b1.st.turned b).below (a.b1.half b)).fit,(hin.UD (a.b1.st.turned b).below (a.b1.half b)).zg,(hin.UD (a.b1.st.turned b).below (a.b1.half b)).nb⟩
 obtain⟨⟨z,J⟩,c⟩:∃r,xn x id bs=r:=⟨_,rfl⟩
 simp only[c] at n d
 rw[c]
 have A:=V n
 have m:=V d
 have HW:=V a
 clear n d a hin j k c
 go_enter func17,ntmps17
 go_upto_region 21 with(fail)
 rw[←h]
 clear h
 obtain⟨B,D,E,F,G,H⟩:=HW.o.here (Ok _ i)
 go_cut [6] (fun v wx=>v=.bool true∧∃pz qa W,Z (zL i W g q z pz)∧Z (zK W wx g2 q2 z qa))
 case first=>
  go_region_held3 (fun W=>W.cell? (Y wr.heap.size 0)=some (I 8)∧W.cell? (Y wr.heap.size 1)=some (I id)∧W.cell? (Y wr.heap.size 2)=some (I at_)∧W.cell? (Y wr.heap.size 3)=some (RP ⟨nm.toArray⟩)∧W.cell? (Y wr.heap.size 4)=some (RO p nb t)∧W.cell? (Y wr.heap.size 5)=some (RO s l u))
   (first
    |exact HW.o.here (Ok _ _)
    |exact HW.o.here (zG _)
    |exact HW.o.t1 HT.o
    |exact HW.o.t2 HT.o ic.o
    |go_keep)
   (first
    |(go_at_call 36;refine(A.o _ uO).mono ?_;rintro e K ⟨rfl,pz,b⟩;have HT:=V b;clear b)
    |(go_at_call 64;refine(m.o _ _ HT.o).mono ?_;rintro e L ⟨rfl,qa,y⟩;have ic:=V y;clear y)
    |(go_at_call 9;refine(Zd _ _).mono ?_;rintro e M ⟨rfl,rfl⟩)
    |fail)
  all_goals
   go_wp2_with fail
   go_meet
   exact⟨zv,pz,qa,_,HT,ic⟩
 case rest=>
  exact VZ
theorem both_9 (w wr:Oc)(g:Nat)(q:zW)(g2:Nat)(q2:zW)(x:Acc)(op id at_:Int)(nm:yx)(bs:Ob Int)(ks:yF)(vb vk:Oe)(hin:Zj w wr g q g2 q2 x bs vb ks vk nm)(hop:op=9) :
  C 17 #[Y g 0,Y g2 0,.agg #[I op,I id,I at_,RP ⟨nm.toArray⟩,vb,vk]] wr (uX w wr g q g2 q2 (N5 x ⟨op,id,at_,nm,bs,ks⟩).1):=by
 subst hop
 rw[show (N5 x ⟨9,id,at_,nm,bs,ks⟩).1=(xn x id bs).1 from by simp[N5]]
 obtain⟨p,t,rfl,_,_⟩:=hin.zg.form
 obtain⟨s,u,rfl,_,_⟩:=hin.keys.form
 obtain⟨nb,j⟩:∃nb,bs.length=nb:=⟨_,rfl⟩
 obtain⟨l,k⟩:∃l,ks.length=l:=⟨_,rfl⟩
 rw[j,k] at hin ⊢
 obtain⟨i,h⟩:∃i:Oc,i=wr.alloc (.cells #[I 9,I id,I at_,Oa nm,RO p nb t,RO s l u] 40):=⟨_,rfl⟩
 have a:=hin.way 9 id at_ nm
 rw[←h] at a
 have n:∀W,Od i i W→_:=a.prog (f:=36) fun W hb=>Jb W g q x id bs _ [] (hin.app hb).at_ (hin.app hb).fit (hin.app hb).zg (hin.app hb).nb
 have d:=fun W q' (b:zL i W g q (xn x id bs).1 q')=>dI W g2 q2 x id bs _ [] ⟨(hin.UD (a.b1.st.turned b).below (a.b1.half b)).at_,(hin.UD (a.b1.st.turned b).below (a.b1.half b)).fit,(hin.UD (a.b1.st.turned b).below (a.b1.half b)).zg,(hin.UD (a.b1.st.turned b).below (a.b1.half b)).nb⟩
 obtain⟨⟨z,J⟩,c⟩:∃r,xn x id bs=r:=⟨_,rfl⟩
 simp only[c] at n d
 rw[c]
 have A:=V n
 have m:=V d
 have HW:=V a
 clear n d a hin j k c
 go_enter func17,ntmps17
 go_upto_region 21 with(fail)
 rw[←h]
 clear h
 obtain⟨B,D,E,F,G,H⟩:=HW.o.here (Ok _ i)
 go_cut [6] (fun v wx=>v=.bool true∧∃pz qa W,Z (zL i W g q z pz)∧Z (zK W wx g2 q2 z qa))
 case first=>
  go_region_held3 (fun W=>W.cell? (Y wr.heap.size 0)=some (I 9)∧W.cell? (Y wr.heap.size 1)=some (I id)∧W.cell? (Y wr.heap.size 2)=some (I at_)∧W.cell? (Y wr.heap.size 3)=some (RP ⟨nm.toArray⟩)∧W.cell? (Y wr.heap.size 4)=some (RO p nb t)∧W.cell? (Y wr.heap.size 5)=some (RO s l u))
   (first
    |exact HW.o.here (Ok _ _)
    |exact HW.o.here (zG _)
    |exact HW.o.t1 HT.o
    |exact HW.o.t2 HT.o ic.o
    |go_keep)
   (first
    |(go_at_call 36;refine(A.o _ uO).mono ?_;rintro e K ⟨rfl,pz,b⟩;have HT:=V b;clear b)
    |(go_at_call 64;refine(m.o _ _ HT.o).mono ?_;rintro e L ⟨rfl,qa,y⟩;have ic:=V y;clear y)
    |(go_at_call 9;refine(Zd _ _).mono ?_;rintro e M ⟨rfl,rfl⟩)
    |fail)
  all_goals
   go_wp2_with fail
   go_meet
   exact⟨zv,pz,qa,_,HT,ic⟩
 case rest=>
  exact VZ
theorem both_10 (w wr:Oc)(g:Nat)(q:zW)(g2:Nat)(q2:zW)(x:Acc)(op id at_:Int)(nm:yx)(bs:Ob Int)(ks:yF)(vb vk:Oe)(hin:Zj w wr g q g2 q2 x bs vb ks vk nm)(hop:op=10) :
  C 17 #[Y g 0,Y g2 0,.agg #[I op,I id,I at_,RP ⟨nm.toArray⟩,vb,vk]] wr (uX w wr g q g2 q2 (N5 x ⟨op,id,at_,nm,bs,ks⟩).1):=by
 subst hop
 rw[show (N5 x ⟨10,id,at_,nm,bs,ks⟩).1=(yQ x id).1 from by simp[N5]]
 obtain⟨s,u,rfl,_,_⟩:=hin.zg.form
 obtain⟨t,y,rfl,_,_⟩:=hin.keys.form
 obtain⟨l,j⟩:∃l,bs.length=l:=⟨_,rfl⟩
 obtain⟨m,k⟩:∃m,ks.length=m:=⟨_,rfl⟩
 rw[j,k] at hin ⊢
 obtain⟨i,h⟩:∃i:Oc,i=wr.alloc (.cells #[I 10,I id,I at_,Oa nm,RO s l u,RO t m y] 40):=⟨_,rfl⟩
 have a:=hin.way 10 id at_ nm
 rw[←h] at a
 have p:∀W,Od i i W→_:=a.prog (f:=37) fun W hb=>JW W g q x id (hin.app hb).at_ (hin.app hb).fit
 have c:=fun W q' (d:zL i W g q (yQ x id).1 q')=>kH W g2 q2 x id (hin.UD (a.b1.st.turned d).below (a.b1.half d)).at_ (hin.UD (a.b1.st.turned d).below (a.b1.half d)).fit
 obtain⟨⟨A,K⟩,b⟩:∃r,yQ x id=r:=⟨_,rfl⟩
 simp only[b] at p c
 rw[b]
 have B:=V p
 have n:=V c
 have HW:=V a
 clear p c a hin j k b
 go_enter func17,ntmps17
 go_upto_region 23 with(fail)
 rw[←h]
 clear h
 obtain⟨D,E,F,G,H,J⟩:=HW.o.here (Ok _ i)
 go_cut [6] (fun v wx=>v=.bool true∧∃pz qa W,Z (zL i W g q A pz)∧Z (zK W wx g2 q2 A qa))
 case first=>
  go_region_held3 (fun W=>W.cell? (Y wr.heap.size 0)=some (I 10)∧W.cell? (Y wr.heap.size 1)=some (I id)∧W.cell? (Y wr.heap.size 2)=some (I at_)∧W.cell? (Y wr.heap.size 3)=some (RP ⟨nm.toArray⟩)∧W.cell? (Y wr.heap.size 4)=some (RO s l u)∧W.cell? (Y wr.heap.size 5)=some (RO t m y))
   (first
    |exact HW.o.here (Ok _ _)
    |exact HW.o.here (zG _)
    |exact HW.o.t1 HT.o
    |exact HW.o.t2 HT.o ic.o
    |go_keep)
   (first
    |(go_at_call 37;refine(B.o _ uO).mono ?_;rintro e L ⟨rfl,pz,d⟩;have HT:=V d;clear d)
    |(go_at_call 65;refine(n.o _ _ HT.o).mono ?_;rintro e M ⟨rfl,qa,z⟩;have ic:=V z;clear z)
    |(go_at_call 9;refine(Zd _ _).mono ?_;rintro e N ⟨rfl,rfl⟩)
    |fail)
  all_goals
   go_wp2_with fail
   go_meet
   exact⟨zv,pz,qa,_,HT,ic⟩
 case rest=>
  exact VZ
theorem rV (w wr:Oc)(g:Nat)(q:zW)(g2:Nat)(q2:zW)(x:Acc)(op id at_:Int)(nm:yx)(bs:Ob Int)(ks:yF)(vb vk:Oe)(hin:Zj w wr g q g2 q2 x bs vb ks vk nm)(h0:¬op=0)(h1:¬op=1)(h2:¬op=2)(h3:¬op=3)(h4:¬op=4)(h5:¬op=5)(h6:¬op=6)(h7:¬op=7)(h8:¬op=8)(h9:¬op=9)(h10:¬op=10) :
  C 17 #[Y g 0,Y g2 0,.agg #[I op,I id,I at_,RP ⟨nm.toArray⟩,vb,vk]] wr (uX w wr g q g2 q2 (N5 x ⟨op,id,at_,nm,bs,ks⟩).1):=by
 rw[show (N5 x ⟨op,id,at_,nm,bs,ks⟩).1=x from by simp[N5,h0,h1,h2,h3,h4,h5,h6,h7,h8,h9,h10]]
 have p:(op==0)=false:=Xq
 have r:(op==1)=false:=xv
 have s:(op==2)=false:=V7
 have t:(op==3)=false:=by simpa using h3
 have u:(op==4)=false:=by simpa using h4
 have v:(op==5)=false:=by simpa using h5
 have y:(op==6)=false:=by simpa using h6
 have z:(op==7)=false:=by simpa using h7
 have A:(op==8)=false:=by simpa using h8
 have B:(op==9)=false:=by simpa using h9
 have n:(op==10)=false:=by simpa using h10
 obtain⟨j,l,rfl,_,_⟩:=hin.zg.form
 obtain⟨k,m,rfl,_,_⟩:=hin.keys.form
 obtain⟨f,b⟩:∃f,bs.length=f:=⟨_,rfl⟩
 obtain⟨h,c⟩:∃h,ks.length=h:=⟨_,rfl⟩
 rw[b,c] at hin ⊢
 obtain⟨i,a⟩:∃i:Oc,i=wr.alloc (.cells #[I op,I id,I at_,Oa nm,RO j f l,RO k h m] 40):=⟨_,rfl⟩
 have e:=hin.way op id at_ nm
 rw[←a] at e
 have d:=V e
 rw[a] at d
 clear e hin b c a h0 h1 h2 h3 h4 h5 h6 h7 h8 h9 h10
 go_enter func17,ntmps17
 go_wp2_with fail
 go_ret
 exact d.o.both.still d.o.bl
theorem qu (w wr:Oc)(g:Nat)(q:zW)(g2:Nat)(q2:zW)(x:Acc)(op id at_:Int)(nm:yx)(bs:Ob Int)(ks:yF)(vb vk:Oe)(hin:Zj w wr g q g2 q2 x bs vb ks vk nm) :
  C 17 #[Y g 0,Y g2 0,.agg #[I op,I id,I at_,RP ⟨nm.toArray⟩,vb,vk]] wr (uX w wr g q g2 q2 (N5 x ⟨op,id,at_,nm,bs,ks⟩).1):=by
 by_cases b:op=0
 ·exact both_0 w wr g q g2 q2 x op id at_ nm bs ks vb vk hin b
 by_cases c:op=1
 ·exact both_1 w wr g q g2 q2 x op id at_ nm bs ks vb vk hin c
 by_cases d:op=2
 ·exact both_2 w wr g q g2 q2 x op id at_ nm bs ks vb vk hin d
 by_cases e:op=3
 ·exact both_3 w wr g q g2 q2 x op id at_ nm bs ks vb vk hin e
 by_cases f:op=4
 ·exact both_4 w wr g q g2 q2 x op id at_ nm bs ks vb vk hin f
 by_cases h:op=5
 ·exact both_5 w wr g q g2 q2 x op id at_ nm bs ks vb vk hin h
 by_cases i:op=6
 ·exact both_6 w wr g q g2 q2 x op id at_ nm bs ks vb vk hin i
 by_cases j:op=7
 ·exact both_7 w wr g q g2 q2 x op id at_ nm bs ks vb vk hin j
 by_cases k:op=8
 ·exact both_8 w wr g q g2 q2 x op id at_ nm bs ks vb vk hin k
 by_cases l:op=9
 ·exact both_9 w wr g q g2 q2 x op id at_ nm bs ks vb vk hin l
 by_cases a:op=10
 ·exact both_10 w wr g q g2 q2 x op id at_ nm bs ks vb vk hin a
 exact rV w wr g q g2 q2 x op id at_ nm bs ks vb vk hin b c d e f h i j k l a
end Go.Proofs.YtnofkliaofgiaaaGreatDoor
