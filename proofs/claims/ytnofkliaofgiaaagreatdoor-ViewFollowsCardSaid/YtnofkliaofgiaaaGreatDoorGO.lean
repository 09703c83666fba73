/-
  The walk of the store's Drop: what it hands back, and the account behind it, are dropP's. The walk of the store's Drop, way by way. The walks of the tree's search for a mailbox, and of whether one lies beneath another. The walk of the store's Rename, way by way.
-/
import Derived.Test.YtnofkliaofgiaaaGreatDoorGN
import Derived.Test.YtnofkliaofgiaaaGreatDoorGU
set_option maxRecDepth 100000
set_option maxHeartbeats 8000000
open Go.Proofs.Tryz
open Exists renaming intro→OA
open Go renaming Value→Oe,World→Oc
open Go.Ending renaming returned→RR
open Go.IntKind renaming i64→Ov
open Go.IntWalk renaming i64_in→Og
open Go.Proofs renaming enters_of→O9
open Go.RowKit renaming Below→Od
open Go.RowKit.Below renaming heap_setCell→P3,refl→Ok
open Go.Value renaming pointer→RQ,slice→RO,string→RP
open Go.Value.slice renaming inj→OM
open Go.World renaming block_lt_of_cell?→OH,cell?_alloc_at→PZ,cell?_alloc_lt→Ox,cell?_of_block→PU,size_alloc→O3
open List renaming getElem?_eq_getElem→Ot,getElem?_map→O5,getElem_mem→Oj,length_set→Pd,mem_map→OL,mem_map_of_mem→OV
open Nat renaming add_assoc→O1,le_refl→Oq,lt_of_lt_of_le→OJ,zero_le→OE
open _root_ renaming ByteArray→Oy,List→Ob,decide_eq_false→OD,if_neg→Om,if_pos→OG
namespace Go.Proofs.YtnofkliaofgiaaaGreatDoor
open Go.Shelf Go.RowKit
attribute [local go_sem ↓] Go.wp_at_zero Go.wp_at_succ
theorem Xj (id:Int)(B:Nat)(w W:Oc)(x:xA)(hB:w.cell? (Y B 0)=some (I id))(hb:Od w w W) :
  C 122 (#[.agg (uZ x).toArray]++#[RQ (some (Y B 0))]) W fun e w'=>e=RR (.bool (decide (x.zB=id)))∧Od w w w':=by
 have a:=OH _ _ hB
 have f:=(hb.cell (p:=⟨B,0,none⟩) a).trans hB
 have b:B < W.heap.size:=OJ a hb.size
 obtain⟨i,j,c,k,h,g⟩:=x
 show C 122 #[.agg #[I i,RP ⟨j.toArray⟩,I c,I k,I h,I g],Y B 0] W _
 have l:(W.alloc (.cells #[I i,Oa j,I c,I k,I h,I g] 73)).cell? (Y B 0)=some (I id):=(Ox W _ _ b).trans f
 have HB:=V hb
 clear hb f hB
 by_cases hi:c=id
 ·subst hi
  simp only[decide_true]
  exact Hv
 ·have e:(c==id)=false:=vq
  have d:decide (c=id)=false:=OD hi
  simp only[d]
  clear d hi
  exact Hv
theorem nj (id:Int)(B:Nat)(w W:Oc)(x:Int×Int)(hB:w.cell? (Y B 0)=some (I id))(hb:Od w w W) :
  C 176 (#[.agg (yC x).toArray]++#[RQ (some (Y B 0))]) W fun e w'=>e=RR (.bool (decide (x.1=id)))∧Od w w w':=by
 have a:=OH _ _ hB
 have d:=(hb.cell (p:=⟨B,0,none⟩) a).trans hB
 have b:B < W.heap.size:=OJ a hb.size
 obtain⟨i,u⟩:=x
 show C 176 #[.agg #[I i,I u],Y B 0] W _
 have f:(W.alloc (.cells #[I i,I u] 153)).cell? (Y B 0)=some (I id):=(Ox W _ _ b).trans d
 have HB:=V hb
 clear hb d hB
 by_cases hi:i=id
 ·subst hi
  simp only[decide_true]
  exact H2
 ·have e:(i==id)=false:=vq
  have c:decide (i=id)=false:=OD hi
  simp only[c]
  clear c hi
  exact H2
theorem BK (w:Oc)(a0 a1 a3 a6 a7 id:Int)(s2:Oy)(vk vm:Oe)(l:Ob (Int×Int))(hm:NN w [] 2 vm l.length (zU yC l))(hn:l.length≤1099511627776) :
  C 124 #[.agg #[I a0,I a1,.string s2,I a3,vk,vm,I a6,I a7],I id] w fun e w'=>e=RR (.bool (l.any fun p=>decide (p.1=id)))∧Od w w w':=by
 obtain⟨b,a⟩:∃b:Oc,b=(w.alloc (.cells #[I a0,I a1,.string s2,I a3,vk,vm,I a6,I a7] 83)).alloc (.cells #[I id] 3):=⟨_,rfl⟩
 have c:Od w w b:=by
  rw[a]
  exact zj (zt _ _) (zt _ _)
 have j:b.cell? (Y (w.heap.size+1) 0)=some (I id):=by
  rw[a]
  have k:=(NG.new (w.alloc (.cells #[I a0,I a1,.string s2,I a3,vk,vm,I a6,I a7] 83)) 3 #[I id]).cell 0
  rw[O3] at k
  exact k
 have q:b.cell? (Y w.heap.size 5)=some vm:=by
  rw[a]
  exact((NG.new w 83 #[I a0,I a1,.string s2,I a3,vk,vm,I a6,I a7]).alloc (.cells #[I id] 3)).cell 5
 have m:=KP vm [] l (fun p=>decide (p.1=id)) 176 #[RQ (some (Y (w.heap.size+1) 0))] (O9 func176 zQ rfl) b (hm.below c) hn (fun W hb x _=>nj id _ b W x j hb)
 have d:C 175 #[vm,.func (.func 176) #[] #[RQ (some (Y (w.heap.size+1) 0))]] b fun e w'=>e=RR (.bool (l.any fun p=>decide (p.1=id)))∧Od b b w':=m
 generalize (l.any fun p=>decide (p.1=id))=r at d
 have n:=V d
 have g:=V c
 have i:=V a
 clear m d hm c
 go_enter func124,ntmps124
 go_upto_region 1 with(fail)
 rw[←i.o]
 clear a
 go_wp2_with (first
  |(go_at_call 175;refine n.o.mono ?_;rintro e s ⟨rfl,f⟩;have h:=V (zj g.o f);clear f)
  |fail)
 go_ret
 exact⟨rfl,h.o⟩
theorem eD (id:Int)(B:Nat)(w W:Oc)(x:xd)(hB:w.cell? (Y B 0)=some (I id))(hb:Od w w W)(hm:NN W [] 2 x.mv x.p.zr.length (zU yC x.p.zr))(hn:x.p.zr.length≤1099511627776) :
  C 123 (#[.agg (xV x).toArray]++#[RQ (some (Y B 0))]) W fun e w'=>e=RR (.bool (uK x.p id))∧Od w w w':=by
 have b:=OH _ _ hB
 have q:=(hb.cell (p:=⟨B,0,none⟩) b).trans hB
 have c:B < W.heap.size:=OJ b hb.size
 obtain⟨⟨i,j,k,h,v,n,g,d⟩,f,mv⟩:=x
 show C 123 #[.agg #[I i,I j,RP ⟨k.toArray⟩,I h,f,mv,I g,I d],Y B 0] W _
 have u:(W.alloc (.cells #[I i,I j,Oa k,I h,f,mv,I g,I d] 83)).cell? (Y B 0)=some (I id):=(Ox W _ _ c).trans q
 have m:=BK (W.alloc (.cells #[I i,I j,Oa k,I h,f,mv,I g,I d] 83)) i j h g d id ⟨k.toArray⟩ f mv n (hm.below (zt _ _)) hn
 show Calls _ _ _ _ fun e w'=>e=RR (.bool (n.any fun p=>decide (p.1=id)))∧_
 generalize (n.any fun p=>decide (p.1=id))=r at m
 have t:=V m
 have s:=V hb
 clear hb q hB m hm
 go_enter func123,ntmps123
 go_wp2_with (first
  |(go_at_call 124;refine t.o.mono ?_;rintro e y ⟨rfl,a⟩;have l:=V a;clear a)
  |fail)
 go_ret
 exact⟨rfl,zj s.o (zj (zt _ _) l.o)⟩
theorem qA (w:Oc)(p a:Addr)(v:Oe)(h:a.block≠p.block):(w.setCell p v).cell? a=w.cell? a:=PU (P3 w p v a.block h)
theorem AV (w:Oc)(g:Nat)(q:zW)(x:Acc)(id:Int)(h:zH w g q x)(hf:Fit x)(hno:zZ x.zg id=false) :
  C 60 #[Y g 0,I id] w (xJ w g q (vR x id)):=by
 have a:vR x id=(x,6):=by
  unfold vR
  rw[OG hno]
 rw[a]
 obtain⟨d,gy⟩:∃d:Oc,d=w.alloc (.cells #[I id] 3):=⟨_,rfl⟩
 have c:Od w w d:=JJ
 have d0:d.cell? (Y w.heap.size 0)=some (I id):=JK
 have Gw:w.heap.size < d.heap.size:=JL
 obtain⟨B,b⟩:∃B,B=w.heap.size:=⟨_,rfl⟩
 rw[←b] at d0 Gw
 have i:x.zg.length≤1099511627776:=vr
 have f:=h.later c
 have jf:=vE g q.vb [] x.zg id d f.yZ (f.zg.reads [] zv) i
 have dz:=V c
 have Gu:=V gy
 have H:=V h
 have j:=V hf
 have Gv:=V b
 have af:=ua id x.zg
 rw[hno] at af
 have e:xC id x.zg < 0:=bG
 generalize xC id x.zg=r at jf e
 clear a c af b h hf f hno
 exact Mc
theorem KG (w:Oc)(g:Nat)(q:zW)(x:Acc)(id:Int)(h:zH w g q x)(hf:Fit x)(i:Nat)(_:i < x.zg.length)(hpl:xC id x.zg=(i:Int))(hhas:zZ x.zg id=true)(h1:id=1) :
  C 60 #[Y g 0,I id] w (xJ w g q (vR x id)):=by
 have a:vR x id=(x,1):=by
  unfold vR
  rw[Om Jw,OG h1]
 rw[a]
 obtain⟨d,gy⟩:∃d:Oc,d=w.alloc (.cells #[I id] 3):=⟨_,rfl⟩
 have c:Od w w d:=JJ
 have d0:d.cell? (Y w.heap.size 0)=some (I id):=JK
 have Gw:w.heap.size < d.heap.size:=JL
 obtain⟨B,b⟩:∃B,B=w.heap.size:=⟨_,rfl⟩
 rw[←b] at d0 Gw
 have f:x.zg.length≤1099511627776:=vr
 have e:=h.later c
 have jf:=vE g q.vb [] x.zg id d e.yZ (e.zg.reads [] zv) f
 have dz:=V c
 have Gu:=V gy
 have H:=V h
 have j:=V hf
 have Gv:=V b
 rw[hpl] at jf
 have k:¬(i:Int) < 0:=O
 have l:(id==1)=true:=xv
 clear a c b h hf e h1 hhas hpl
 exact Mc
theorem sg (w:Oc)(g:Nat)(q:zW)(x:Acc)(id:Int)(h:zH w g q x)(hf:Fit x)(i:Nat)(_:i < x.zg.length)(hpl:xC id x.zg=(i:Int))(hhas:zZ x.zg id=true)(h1:¬id=1)(hb:x.zg.any (fun b=>decide (b.zB=id))=true) :
  C 60 #[Y g 0,I id] w (xJ w g q (vR x id)):=by
 have d:vR x id=(x,10):=by
  unfold vR
  rw[Om Jw,Om h1,OG (by rw[hb];rfl)]
 rw[d]
 obtain⟨m,gy⟩:∃m:Oc,m=w.alloc (.cells #[I id] 3):=⟨_,rfl⟩
 have j:Od w w m:=JJ
 have N:m.cell? (Y w.heap.size 0)=some (I id):=JK
 have t:w.heap.size < m.heap.size:=JL
 obtain⟨B,f⟩:∃B,B=w.heap.size:=⟨_,rfl⟩
 rw[←f] at N t
 have s:x.zg.length≤1099511627776:=vr
 have J:=h.later j
 have l:=vE g q.vb [] x.zg id m J.yZ (J.zg.reads [] zv) s
 have z:=V j
 have G:=V gy
 have H:=V h
 have P:=V hf
 have D:=V f
 rw[hpl] at l
 have R:¬(i:Int) < 0:=O
 obtain⟨S,cb,u,_,_⟩:=h.zg.form
 have E:=V u
 obtain⟨T,cm,v,_,_⟩:=h.zC.form
 have F:=V v
 have hq:(id==1)=false:=xv
 clear d j f h hf J h1 hhas hpl u v
 go_enter func60,ntmps60
 go_upto_region 1 with(fail)
 rw[←G.o,←D.o]
 clear gy
 go_wp2_with (first
  |(go_at_call 119;refine l.mono ?_;rintro e M ⟨rfl,k⟩;have Q:=(k.cell (p:=⟨B,0,none⟩) t).trans N;have a:=zj z.o k;have K:=(H.o.later a).yZ;have L:=(H.o.later a).xj;have U:M.cell? (Y g 6)=some (I x.N3.ym):=(H.o.later a).cells 6;have X:=(H.o.later a).vF;have n:=V a;clear k l a;have c:=Vf q.vb [] x.zg (fun b=>decide (b.zB=id)) 122 #[Y B 0] (O9 func122 zQ rfl) M ((H.o.later n.o).zg.reads [] zv) s (fun W hb y _=>Xj id B M W y Q hb);rw[hb] at c;rw[E.o] at c K;rw[F.o] at L)
  |(go_at_call 30;refine c.mono ?_;rintro e w2 ⟨rfl,r⟩;have A:=V (zj n.o r);clear c r)
  |fail)
 go_ret
 exact⟨rfl,q,zL.of_below H.o A.o⟩
theorem Xb {w:Oc}{g:Nat}{q:zW}{x:Acc}(h:zH w g q x)(hf:Fit x)(id:Int)(B:Nat)(hB:w.cell? (Y B 0)=some (I id)) :
  C 103 #[q.vm,.func (.func 123) #[] #[Y B 0]] w fun e w'=>e=RR (.bool (x.zC.any fun m=>uK m id))∧Od w w w':=by
 have b:=h.XC
 have a:=qM q.vm [] q.ms (fun y=>uK y.p id) 123 #[Y B 0] (O9 func123 zQ rfl) w (by
  rw[b]
  exact h.zC.reads [] zv) (by rw[b];have:=hf.nm;have:=hf.zA;have:=hf.N3.mod;omega) (fun W hb y hy=>eD id B w W y hB hb (((h.parts y hy).mem.below hb).sub (fun _ _ _ hm=>by cases hm)) (by have:=hf.lW (m:=y.p) (by rw[←h.same];exact OV hy);omega))
 have c:q.ms.any (fun y=>uK y.p id)=x.zC.any fun m=>uK m id:=by
  have d:x.zC.any (fun y=>uK y id)=(q.ms.map (·.p)).any (fun y=>uK y id):=by rw[h.same]
  rw[d,List.any_map]
  rfl
 rw[c] at a
 exact a
theorem sq (w:Oc)(g:Nat)(q:zW)(x:Acc)(id:Int)(h:zH w g q x)(hf:Fit x)(i:Nat)(_:i < x.zg.length)(hpl:xC id x.zg=(i:Int))(hhas:zZ x.zg id=true)(h1:¬id=1)(hb:x.zg.any (fun b=>decide (b.zB=id))=false)(hm:(x.zC.any fun m=>uK m id)=true) :
  C 60 #[Y g 0,I id] w (xJ w g q (vR x id)):=by
 have f:vR x id=(x,10):=by
  unfold vR
  rw[Om Jw,Om h1,OG (by rw[hb,hm];rfl)]
 rw[f]
 obtain⟨u,gy⟩:∃u:Oc,u=w.alloc (.cells #[I id] 3):=⟨_,rfl⟩
 have l:Od w w u:=JJ
 have X:u.cell? (Y w.heap.size 0)=some (I id):=JK
 have D:w.heap.size < u.heap.size:=JL
 obtain⟨B,k⟩:∃B,B=w.heap.size:=⟨_,rfl⟩
 rw[←k] at X D
 have A:x.zg.length≤1099511627776:=vr
 have Q:=h.later l
 have s:=vE g q.vb [] x.zg id u Q.yZ (Q.zg.reads [] zv) A
 have G:=V l
 have N:=V gy
 have H:=V h
 have L:=V hf
 have K:=V k
 rw[hpl] at s
 have a0:¬(i:Int) < 0:=O
 obtain⟨Ab,cb,E,_,_⟩:=h.zg.form
 have M:=V E
 obtain⟨Am,cm,F,_,_⟩:=h.zC.form
 have j:=V F
 have hq:(id==1)=false:=xv
 clear f l k h hf Q h1 hhas hpl E F
 go_enter func60,ntmps60
 go_upto_region 1 with(fail)
 rw[←N.o,←K.o]
 clear gy
 go_wp2_with (first
  |(go_at_call 119;refine s.mono ?_;rintro e U ⟨rfl,n⟩;have P:=(n.cell (p:=⟨B,0,none⟩) D).trans X;have a:=zj G.o n;have R:=(H.o.later a).yZ;have S:=(H.o.later a).xj;have c6:U.cell? (Y g 6)=some (I x.N3.ym):=(H.o.later a).cells 6;have c9:=(H.o.later a).vF;have v:=V a;clear n s a;have d:=Vf q.vb [] x.zg (fun b=>decide (b.zB=id)) 122 #[Y B 0] (O9 func122 zQ rfl) U ((H.o.later v.o).zg.reads [] zv) A (fun W hb y _=>Xj id B U W y P hb);rw[hb] at d;rw[M.o] at d R;rw[j.o] at S)
  |(go_at_call 30;refine d.mono ?_;rintro e w2 ⟨rfl,r⟩;have c:=V (zj v.o r);have d2:=(r.cell (p:=⟨B,0,none⟩) (OH _ _ P)).trans P;have T:=(H.o.later c.o).xj;rw[j.o] at T;have n6:w2.cell? (Y g 6)=some (I x.N3.ym):=(H.o.later c.o).cells 6;have n9:=(H.o.later c.o).vF;have t:=Xb (H.o.later c.o) L.o id B d2;rw[hm,j.o] at t;clear d r)
  |(go_at_call 103;refine t.mono ?_;rintro e w3 ⟨rfl,z⟩;have J:=V (zj c.o z);clear t z)
  |fail)
 go_ret
 exact⟨rfl,q,zL.of_below H.o J.o⟩
theorem AU (w:Oc)(g:Nat)(q:zW)(x:Acc)(id:Int)(h:zH w g q x)(hf:Fit x)(i:Nat)(_:i < x.zg.length)(hpl:xC id x.zg=(i:Int))(hhas:zZ x.zg id=true)(h1:¬id=1)(hb:x.zg.any (fun b=>decide (b.zB=id))=false)(hm:(x.zC.any fun m=>uK m id)=false)(hen:x.N3.ym≤x.zA) :
  C 60 #[Y g 0,I id] w (xJ w g q (vR x id)):=by
 have f:vR x id=(x,11):=by
  unfold vR
  rw[Om Jw,Om h1,Om (by rw[hb,hm];decide),OG Va]
 rw[f]
 obtain⟨z,gy⟩:∃z:Oc,z=w.alloc (.cells #[I id] 3):=⟨_,rfl⟩
 have n:Od w w z:=JJ
 have d0:z.cell? (Y w.heap.size 0)=some (I id):=JK
 have E:w.heap.size < z.heap.size:=JL
 obtain⟨B,l⟩:∃B,B=w.heap.size:=⟨_,rfl⟩
 rw[←l] at d0 E
 have D:x.zg.length≤1099511627776:=vr
 have R:=h.later n
 have u:=vE g q.vb [] x.zg id z R.yZ (R.zg.reads [] zv) D
 have J:=V n
 have N:=V gy
 have H:=V h
 have L:=V hf
 have K:=V l
 rw[hpl] at u
 have a0:¬(i:Int) < 0:=O
 obtain⟨Ab,cb,F,_,_⟩:=h.zg.form
 have M:=V F
 obtain⟨Am,cm,G,_,_⟩:=h.zC.form
 have k:=V G
 have hq:(id==1)=false:=xv
 clear f n l h hf R h1 hhas hpl F G
 go_enter func60,ntmps60
 go_upto_region 1 with(fail)
 rw[←N.o,←K.o]
 clear gy
 go_wp2_with (first
  |(go_at_call 119;refine u.mono ?_;rintro e X ⟨rfl,r⟩;have P:=(r.cell (p:=⟨B,0,none⟩) E).trans d0;have a:=zj J.o r;have S:=(H.o.later a).yZ;have T:=(H.o.later a).xj;have c6:X.cell? (Y g 6)=some (I x.N3.ym):=(H.o.later a).cells 6;have c9:=(H.o.later a).vF;have A:=V a;clear r u a;have d:=Vf q.vb [] x.zg (fun b=>decide (b.zB=id)) 122 #[Y B 0] (O9 func122 zQ rfl) X ((H.o.later A.o).zg.reads [] zv) D (fun W hb y _=>Xj id B X W y P hb);rw[hb] at d;rw[M.o] at d S;rw[k.o] at T)
  |(go_at_call 30;refine d.mono ?_;rintro e w2 ⟨rfl,s⟩;have c:=V (zj A.o s);have Q:=(s.cell (p:=⟨B,0,none⟩) (OH _ _ P)).trans P;have U:=(H.o.later c.o).xj;rw[k.o] at U;have n6:w2.cell? (Y g 6)=some (I x.N3.ym):=(H.o.later c.o).cells 6;have n9:=(H.o.later c.o).vF;have v:=Xb (H.o.later c.o) L.o id B Q;rw[hm,k.o] at v;clear d s)
  |(go_at_call 103;refine v.mono ?_;rintro e w3 ⟨rfl,t⟩;have j:=V (zj c.o t);have o6:w3.cell? (Y g 6)=some (I x.N3.ym):=(H.o.later j.o).cells 6;have o9:=(H.o.later j.o).vF;have d3:=(t.cell (p:=⟨B,0,none⟩) (OH _ _ Q)).trans Q;  clear v t)
  |(go_at_call 71;refine(vQ g x.zA x.N3.ym _ ((yD (w:=w3) zF _).trans o9) ((yD (w:=w3) zF _).trans o6)).mono ?_;rintro e w4 ⟨rfl,ne,rfl⟩)
  |fail)
 go_ret
 exact⟨rfl,q,(zL.of_below H.o j.o).yO (zO (Ok _ _) _)⟩
theorem drop_ok (w:Oc)(g:Nat)(q:zW)(x:Acc)(id:Int)(h:zH w g q x)(hf:Fit x)(i:Nat)(hi:i < x.zg.length)(hpl:xC id x.zg=(i:Int))(hhas:zZ x.zg id=true)(h1:¬id=1)(hb:x.zg.any (fun b=>decide (b.zB=id))=false)(hm:(x.zC.any fun m=>uK m id)=false)(hen:¬x.N3.ym≤x.zA) :
  C 60 #[Y g 0,I id] w (xJ w g q (vR x id)):=by
 obtain⟨rr,a3⟩:∃rr,vR x id=rr:=⟨_,rfl⟩
 have F:rr=({x with zA:=x.zA+1,zg:=x.zg.eraseIdx i,log:=x.log.add [⟨x.zA+1,1,id,3⟩]},0):=by
  rw[←a3]
  unfold vR
  rw[Om Jw,Om h1,Om (by rw[hb,hm];decide),Om Jz,hpl]
  rfl
 rw[a3]
 have ab:=V F
 obtain⟨w0,gy⟩:∃w0:Oc,w0=w.alloc (.cells #[I id] 3):=⟨_,rfl⟩
 have R:Od w w w0:=JJ
 have d0:w0.cell? (Y w.heap.size 0)=some (I id):=JK
 have al:w.heap.size < w0.heap.size:=JL
 obtain⟨B,Q⟩:∃B,B=w.heap.size:=⟨_,rfl⟩
 rw[←Q] at d0 al
 have a1:x.zg.length≤1099511627776:=vr
 have h0:=h.later R
 have a0:=vE g q.vb [] x.zg id w0 h0.yZ (h0.zg.reads [] zv) a1
 have au:=V R
 have az:=V gy
 have H:=V h
 have K:=V hf
 have s:=V Q
 rw[hpl] at a0
 have b6:¬(i:Int) < 0:=O
 obtain⟨Ab,cb,an,_,_⟩:=h.zg.form
 have N:=V an
 obtain⟨Am,cm,ao,_,_⟩:=h.zC.form
 have P:=V ao
 have hq:(id==1)=false:=xv
 have b5:=hf.zA
 have b8:=hf.N3.mod
 have b7:Ov.wrap ((i:Int)+1)=(i:Int)+1:=Og _ O
 clear F a3 R Q h hf h0 h1 hhas hpl an ao
 go_enter func60,ntmps60
 go_upto_region 1 with(fail)
 rw[←az.o,←s.o]
 clear gy
 go_upto_region 14 with(first
  |(go_at_call 119;refine a0.mono ?_;rintro e w1 ⟨rfl,S⟩;have d1:=(S.cell (p:=⟨B,0,none⟩) al).trans d0;have d:=zj au.o S;have ap:=(H.o.later d).yZ;have aq:=(H.o.later d).xj;have c6:w1.cell? (Y g 6)=some (I x.N3.ym):=(H.o.later d).cells 6;have c9:=(H.o.later d).vF;have a8:=V d;clear S a0 d;have t:=Vf q.vb [] x.zg (fun b=>decide (b.zB=id)) 122 #[Y B 0] (O9 func122 zQ rfl) w1 ((H.o.later a8.o).zg.reads [] zv) a1 (fun W hb y _=>Xj id B w1 W y d1 hb);rw[hb] at t;rw[N.o] at t ap;rw[P.o] at aq)
  |(go_at_call 30;refine t.mono ?_;rintro e w2 ⟨rfl,T⟩;have j:=V (zj a8.o T);have d2:=(T.cell (p:=⟨B,0,none⟩) (OH _ _ d1)).trans d1;have ar:=(H.o.later j.o).xj;rw[P.o] at ar;have n6:w2.cell? (Y g 6)=some (I x.N3.ym):=(H.o.later j.o).cells 6;have n9:=(H.o.later j.o).vF;have a2:=Xb (H.o.later j.o) K.o id B d2;rw[hm,P.o] at a2;clear t T)
  |(go_at_call 103;refine a2.mono ?_;rintro e v ⟨rfl,U⟩;have J:=V (zj j.o U);have o6:v.cell? (Y g 6)=some (I x.N3.ym):=(H.o.later J.o).cells 6;have o9:=(H.o.later J.o).vF;have d3:=(U.cell (p:=⟨B,0,none⟩) (OH _ _ d2)).trans d2;  clear a2 U)
  |(go_at_call 71;refine(vQ g x.zA x.N3.ym _ ((yD (w:=v) zF _).trans o9) ((yD (w:=v) zF _).trans o6)).mono ?_;rintro e w4 ⟨rfl,ne,rfl⟩;have X:=(zj J.o (zO (Ok v.heap.size v) ne));have av:=V X;have c:=V (H.o.later X);have a5:=c.o.yZ;rw[N.o] at a5;have pf:=c.o.frozen 10;have E:=Kz (v.drewN ne) _ q.hb _ _ (by have h1:=c.o.zg;rw[N.o] at h1;exact h1) (XQ qF x.zg) a1 i hi;have d4:(v.drewN ne).cell? (Y B 0)=some (I id):=d3;have ag:g∉q.hb.toList:=(fun hm=>c.o.apart.hb yT);have b1:B∉q.hb.toList:=(fun hm=>by have h1:=H.o.lt B (zW.Yo yT);rw[s.o] at h1;omega);have l:g < (v.drewN ne).heap.size:=c.o.blk.lt;have A:B < (v.drewN ne).heap.size:=OH _ _ d4;clear X)
  |(go_at_call 125;refine E.mono ?_;rintro e w8 ⟨v8,rfl,a4,k⟩;have b0:w8.cell? (Y g 10)=some (RO Ab x.zg.length cb):=(k.cell (p:=⟨g,10,none⟩) l ag).trans a5;have ef:w8.frozen? (Y g 10)=false:=(k.frozen (p:=⟨g,10,none⟩) l ag).trans pf;have d8:=(k.cell (p:=⟨B,0,none⟩) A b1).trans d4;obtain⟨A8,c8,rfl,_,_⟩:=a4.form;have ac:=V a4;have a9:=V k;clear E a4 k)
  |fail)
 obtain⟨f,u⟩:∃f:Oc,f=w8.setCell (Y g 10) (RO A8 (x.zg.length - 1) c8):=⟨_,rfl⟩
 rw[←u]
 have a:=c.o.cutBox (v':=RO A8 (x.zg.length - 1) c8) i hi ac.o a9.o
 rw[←u] at a
 obtain⟨q7,am⟩:∃q7:zW,q7={q with vb:=RO A8 (x.zg.length - 1) c8}:=⟨_,rfl⟩
 rw[←am] at a
 have ae:zL w f g q {x with zg:=x.zg.eraseIdx i} q7:=(zL.of_below H.o av.o).trans a
 have df:f.cell? (Y B 0)=some (I id):=by
  rw[u,qA _ _ _ _ (by
   have h1:=H.o.blk.lt
   have h2:=s.o
   show B≠g
   omega)]
  exact d8
 have M:=V ae
 clear u a am ae b0 ef d8 d4 d3 d2 d1 d0 a5 pf c6 c9 n6 n9 ar o6 o9 ap aq l A ac a9
 have a':f.cell? (Y g 12)=some (RQ (some (Y q7.gl 0))):=M.o.at_.xp
 have n:∀W:Oc,W.heap=f.heap→W.os=f.os→W.tape=f.tape→W.output=f.output→C 74 #[Y g 0] W fun e w'=>e=RR (I (x.zA+1))∧zL w w' g q {x with zA:=x.zA+1,zg:=x.zg.eraseIdx i} q7∧w'.cell? (Y B 0)=some (I id):=fun W e0 e1 e2 e3=>by
  have hb:Od f f W:=⟨e1,e2,e3,Nat.le_of_eq (by rw[e0]),fun _ _=>by rw[e0]⟩
  have h1:=M.o.at_.later hb
  refine(YA g x.zA W h1.vF (h1.frozen 9) O).mono ?_
  rintro e w' ⟨rfl,rfl⟩
  refine⟨rfl,(M.o.Zf hb).trans (h1.vn 9 (I (x.zA+1)) {x with zA:=x.zA+1,zg:=x.zg.eraseIdx i} rfl rfl rfl rfl),?_⟩
  rw[qA _ _ _ _ (by
   have h1:=H.o.blk.lt
   have h2:=s.o
   show B≠g
   omega),show W.cell? (Y B 0)=f.cell? (Y B 0) from PU (by rw[e0])]
  exact df
 have L:=V n
 clear n
 go_cut [] (fun wx=>∃a6,Z (zL w wx g q {x with zA:=x.zA+1,zg:=x.zg.eraseIdx i,log:=x.log.add [⟨x.zA+1,1,id,3⟩]} a6))
 case first=>
  go_region_law (first
   |(refine yK zF zF (O9 func74 zQ rfl) yl (L.o _ rfl rfl rfl rfl) ?_;rintro e w9 ⟨rfl,r,d9⟩;refine⟨_,rfl,?_⟩;have b3:w9.cell? (Y g 12)=some (RQ (some (Y q7.gl 0))):=r.at_.xp;have b4:=(Ox w9 (.cells #[I (x.zA+1),I 1,I id,I 3] 159) (Y g 12) r.at_.blk.lt).trans b3;have D:=fun W hb=>LG (W:=W) r.at_ K.o.log K.o.N3.log ⟨x.zA+1,1,id,3⟩ hb;have a7:=V D;have aw:=V r;clear D r)
   |(refine yK zF zF (O9 func77 zQ rfl) yl (a7.o _ ⟨rfl,rfl,rfl,Oq _,fun _ _=>rfl⟩) ?_;rintro e b9 ⟨rfl,b2,G⟩;refine⟨_,rfl,?_⟩;have ad:=V G;clear G)
   |fail)
  all_goals
   go_wp2_with fail
   go_meet
   exact⟨b2,V (aw.o.trans ad.o)⟩
 case rest=>
  obtain⟨a6,z⟩:=hcut
  obtain⟨wz,rfl⟩:∃wz:Oc,wz=wc:=⟨_,rfl⟩
  have aa:Z (xJ w g q rr (RR (I 0)) wz):=V (by
   rw[ab.o]
   exact⟨rfl,a6,z.o⟩)
  clear z a' df
  go_wp2_with fail
  go_ret
  exact aa.o
theorem AW (w:Oc)(g:Nat)(q:zW)(x:Acc)(id:Int)(h:zH w g q x)(hf:Fit x) :
  C 60 #[Y g 0,I id] w (xJ w g q (vR x id)):=by
 cases c:zZ x.zg id with
 |false=>exact AV w g q x id h hf c
 |true=>
  obtain⟨i,e,a,_,_,_,_⟩:=YR ((uv x.zg id).1 c)
  by_cases d:id=1
  ·exact KG w g q x id h hf i e a c d
  cases f:x.zg.any (fun b=>decide (b.zB=id)) with
  |true=>exact sg w g q x id h hf i e a c d f
  |false=>
   cases j:(x.zC.any fun m=>uK m id) with
   |true=>exact sq w g q x id h hf i e a c d f j
   |false=>
    by_cases k:x.N3.ym≤x.zA
    ·exact AU w g q x id h hf i e a c d f j k
    ·exact drop_ok w g q x id h hf i e a c d f j k
theorem iP (id:Int)(B:Nat)(w W:Oc)(x:xA)(hB:w.cell? (Y B 0)=some (I id))(hb:Od w w W) :
  C 210 (#[.agg (uZ x).toArray]++#[RQ (some (Y B 0))]) W fun e w'=>e=RR (.bool (decide (x.id=id)))∧Od w w w':=by
 have a:=OH _ _ hB
 have d:=(hb.cell (p:=⟨B,0,none⟩) a).trans hB
 have b:B < W.heap.size:=OJ a hb.size
 obtain⟨i,h,j,k,g,f⟩:=x
 show C 210 #[.agg #[I i,RP ⟨h.toArray⟩,I j,I k,I g,I f],Y B 0] W _
 have l:(W.alloc (.cells #[I i,Oa h,I j,I k,I g,I f] 73)).cell? (Y B 0)=some (I id):=(Ox W _ _ b).trans d
 have HB:=V hb
 clear hb d hB
 by_cases hi:i=id
 ·subst hi
  simp only[decide_true]
  exact H'
 ·have e:(i==id)=false:=vq
  have c:decide (i=id)=false:=OD hi
  simp only[c]
  clear c hi
  exact H'
theorem KI (v:Oe)(S:Ob Nat)(l:Ob xA)(id:Int)(w:Oc)(hr:NN w S 6 v l.length (zU uZ l))(hn:l.length≤1099511627776) :
  C 174 #[v,I id] w fun e w'=>e=RR (I (xC id l))∧Od w w w':=by
 have a:(w.alloc (.cells #[I id] 3)).cell? (Y w.heap.size 0)=some (I id):=(PZ _ _ _ _ rfl).trans rfl
 have c:∀args W,(callFunc 210 args).run prog W=.ok (.enter 210 args) W:=O9 func210 zQ rfl
 have d:=eH v S l (fun b=>decide (b.id=id)) 210 #[Y w.heap.size 0] c (w.alloc (.cells #[I id] 3)) (hr.below ((Ok _ w).alloc (Oq _) _)) hn
  (fun W hb x _=>iP id _ _ W x a hb)
 have hc2:C 82 #[v,.func (.func 210) #[] #[Y w.heap.size 0]] (w.alloc (.cells #[I id] 3)) fun e w'=>e=RR (I (xC id l))∧Od (w.alloc (.cells #[I id] 3)).heap.size (w.alloc (.cells #[I id] 3)) w':=d
 generalize xC id l=r at hc2
 clear d c hr a hn
 go_enter func174,ntmps174
 exact EJ
theorem UR (v:Oe)(S:Ob Nat)(l:Ob xA)(id top:Int)(w:Oc)(hr:NN w S 6 v l.length (zU uZ l))(hn:l.length≤1099511627775) :
  C 120 #[v,I id,I top] w fun e w'=>e=RR (.bool (uL l top (l.length+1) id))∧Od w w w':=by
 obtain⟨b,z⟩:∃b,uL l top (l.length+1) id=b:=⟨_,rfl⟩
 rw[z]
 obtain⟨A,G,B,_,_⟩:=hr.form
 obtain⟨n,m⟩:∃n,l.length=n:=⟨_,rfl⟩
 rw[m] at B z
 have HR:=V hr
 have D:=V z
 have HV:=V B
 have E:=V m
 have X:Ov.wrap ((n:Int)+1)=(n:Int)+1:=Og _ O
 rw[B]
 have W:n≤1099511627775:=O
 clear hr z B m
 go_enter func120,ntmps120
 go_wp2_with fail
 go_loopw [1,11] (fun c i wr=>∃(k:Nat) (cur:Int),k≤n+1∧i=I k∧c=I cur∧Z (Od w w wr)∧Z (uL l top (n+1 - k) cur=b)) (fun _ i _=>n+1 - (intOf i).toNat)
 case atStart=>exact⟨0,id,OE _,rfl,rfl,V (Ok _ _),D⟩
 case round=>
  obtain⟨k,cur,hk,rfl,rfl,HU,HT⟩:=hrel
  by_cases U:k < n+1
  ·have J:(k:Int) < (n:Int)+1:=O
   obtain⟨f,P⟩:∃f,n+1 - k=f+1:=⟨n - k,O⟩
   have hu:=HT.o
   rw[P,uL] at hu
   by_cases hc:cur=top
   ·exact Fd
   ·rw[Om hc] at hu
    have hq:(cur==top)=false:=vM
    have d:=KI (RO A n G) [] l cur wr IX O
    by_cases hin:cur∈ids l
    ·obtain⟨i,hi,h1,_,_,_,L⟩:=YR hin
     rw[L] at hu
     simp only at hu
     rw[h1] at d
     obtain⟨F,q,K,u,_,_,Fx,_,aj⟩:=HR.o.at_ O
     have x:=HV.o.symm.trans u
     have N:A=some ⟨F,q,none⟩:=(OM x).1
     subst N
     have H:wr.cell? (Y F (q+i * 6+2))=some (I l[i].zB):=by
      exact Fi
     obtain⟨y,t⟩:∃y,l[i].zB=y:=⟨_,rfl⟩
     rw[t] at H hu
     have Q:(i:Int) < (n:Int):=by rw[E.o] at hi;omega
     have T:¬(i:Int) < 0:=O
     have R:(0:Int)≤(i:Int):=O
     have HB:Z (uL l top (n+1 - (k+1)) y=b):=V (by rw[show n+1 - (k+1)=f by omega];exact hu)
     clear hu h1 L aj u x hin hc t
     go_wp2_with (first
      |(go_at_call 174;refine d.mono ?_;rintro e w4 ⟨rfl,a⟩;have e3:=(a.cell (p:=⟨F,q+i * 6+2,none⟩) (OH _ _ H)).trans H;have j:=V (zj HU.o a);clear a d)
      |fail)
     refine⟨?_,zV⟩
     first|exact⟨k+1,y,O,zE,rfl,j,HB⟩|((repeat apply OA);exact⟨⟨k+1,y,O,zE,rfl,j,HB⟩,rfl⟩)
    ·have g:=ua cur l
     have M:zZ l cur=false:=by
      exact G4
     rw[M] at g
     have s:xC cur l < 0:=by simpa using g
     have h:l.find? (fun b=>decide (b.id=cur))=none:=by
      exact GU
     rw[h] at hu
     simp only at hu
     generalize xC cur l=r at d s
     have HB:=V hu
     clear hu g M h hin hc
     go_wp2_with (first
      |(go_at_call 174;refine d.mono ?_;rintro e w4 ⟨rfl,a⟩;have j:=V (zj HU.o a);clear a d)
      |fail)
     go_ret
     exact⟨xy HB.o,j.o⟩
  ·have J:¬(k:Int) < (n:Int)+1:=O
   exact Fo
theorem oneI_sl {W:Oc}{B:Nat}{i:Int}(h:NG W B 3 #[I i]):Sl W 3 1 (RO (some (Y B 0)) 1 1) (some B) 1 ([i].map yJ):=
 ⟨by simp[yJ],.inr ⟨B,0,1,_,rfl,rfl,h,Oq _,yV,zv,by simp[yJ]⟩⟩
theorem ids_set {l:Ob xA}{i:Nat}(hi:i < l.length){y:xA}(h:y.id=l[i].id):ids (l.set i y)=ids l:=by
 unfold ids
 rw[List.map_set,h]
 have b:(l.map (·.id))[i]?=some l[i].id:=by rw[O5,Ot hi];rfl
 apply List.ext_getElem?
 intro j
 rw[List.getElem?_set]
 by_cases a:i=j
 ·subst a
  rw[OG rfl,b]
  simp[hi]
 ·rw[Om a]
theorem nS (w:Oc)(g:Nat)(q:zW)(x:Acc)(id:Int)(nl:yx)(zB:Int)(h:zH w g q x)(hf:Fit x)(_:nl.length≤1099511627776)(hno:zZ x.zg id=false) :
  C 58 #[Y g 0,I id,Oa nl,I zB] w (xJ w g q (yB zY x id nl zB)):=by
 have a:x.zg.find? (fun b=>decide (b.id=id))=none:=by
  rw[List.find?_eq_none]
  intro y n hd
  have k:zZ x.zg id=true:=(uv x.zg id).2 (OL.2 ⟨y,n,V6⟩)
  rw[hno] at k
  cases k
 have c:yB zY x id nl zB=(x,6):=by
  unfold yB
  rw[a]
 rw[c]
 have m:x.zg.length≤1099511627775:=vr
 have d:=vE g q.vb [] x.zg id w h.yZ (h.zg.reads [] zv) O
 have H:=V h
 have l:=V hf
 have af:=ua id x.zg
 rw[hno] at af
 have i:xC id x.zg < 0:=bG
 generalize xC id x.zg=r at d i
 clear c af h hf hno a
 go_enter func58,ntmps58
 go_wp2_with (first
  |(go_at_call 119;refine d.mono ?_;rintro e p ⟨rfl,f⟩;have j:=V f;clear f d)
  |fail)
 go_ret
 exact⟨rfl,q,zL.of_below H.o j.o⟩
theorem tW (w:Oc)(g:Nat)(q:zW)(x:Acc)(id:Int)(nl:yx)(zB:Int)(h:zH w g q x)(hf:Fit x)(hnl:nl.length≤1099511627776)(i:Nat)(hi:i < x.zg.length)(hpl:xC id x.zg=(i:Int))(hfi:x.zg.find? (fun b=>decide (b.id=id))=some x.zg[i])(hr:zY nl=false) :
  C 58 #[Y g 0,I id,Oa nl,I zB] w (xJ w g q (yB zY x id nl zB)):=by
 have a:yB zY x id nl zB=(x,1):=by
  unfold yB
  rw[hfi]
  simp only
  rw[OG (.inl hr)]
 rw[a]
 have d:x.zg.length≤1099511627775:=vr
 have jf:=vE g q.vb [] x.zg id w h.yZ (h.zg.reads [] zv) O
 have H:=V h
 have c:=V hf
 rw[hpl] at jf
 have e:¬(i:Int) < 0:=O
 have lg:=fun W=>x8 ⟨nl.toArray⟩ uP W
 rw[show zY (⟨nl.toArray⟩:Oy).data.toList=false from hr] at lg
 clear a h hf hr hpl hfi
 exact Mx
theorem tZ (w:Oc)(g:Nat)(q:zW)(x:Acc)(id:Int)(nl:yx)(zB:Int)(h:zH w g q x)(hf:Fit x)(hnl:nl.length≤1099511627776)(i:Nat)(hi:i < x.zg.length)(hpl:xC id x.zg=(i:Int))(hfi:x.zg.find? (fun b=>decide (b.id=id))=some x.zg[i])(hr:zY nl=true)(h1:id=1) :
  C 58 #[Y g 0,I id,Oa nl,I zB] w (xJ w g q (yB zY x id nl zB)):=by
 have a:yB zY x id nl zB=(x,1):=by
  unfold yB
  rw[hfi]
  simp only
  rw[OG (.inr h1)]
 rw[a]
 have d:x.zg.length≤1099511627775:=vr
 have jf:=vE g q.vb [] x.zg id w h.yZ (h.zg.reads [] zv) O
 have H:=V h
 have c:=V hf
 rw[hpl] at jf
 have e:¬(i:Int) < 0:=O
 have lg:=fun W=>x8 ⟨nl.toArray⟩ uP W
 rw[show zY (⟨nl.toArray⟩:Oy).data.toList=true from hr] at lg
 have f:(id==1)=true:=xv
 clear a h hf hr hpl hfi h1
 exact Mx
theorem kN (w:Oc)(g:Nat)(q:zW)(x:Acc)(id:Int)(nl:yx)(zB:Int)(h:zH w g q x)(hf:Fit x)(hnl:nl.length≤1099511627776)(i:Nat)(hi:i < x.zg.length)(hpl:xC id x.zg=(i:Int))(hfi:x.zg.find? (fun b=>decide (b.id=id))=some x.zg[i])(hr:zY nl=true)(h1:¬id=1)(hnm:xT x nl zB id≠0) :
  C 58 #[Y g 0,I id,Oa nl,I zB] w (xJ w g q (yB zY x id nl zB)):=by
 have a:yB zY x id nl zB=(x,xT x nl zB id):=by
  unfold yB
  rw[hfi]
  simp only
  rw[Om V8]
  rw[OG hnm]
 rw[a]
 have u:x.zg.length≤1099511627775:=vr
 have c:=vE g q.vb [] x.zg id w h.yZ (h.zg.reads [] zv) O
 have H:=V h
 have t:=V hf
 rw[hpl] at c
 have v:¬(i:Int) < 0:=O
 have f:=fun W=>x8 ⟨nl.toArray⟩ uP W
 rw[show zY (⟨nl.toArray⟩:Oy).data.toList=true from hr] at f
 have d:=fun W (hb:Od w w W)=>uT W g q x (h.later hb) O nl O zB id
 have B:(id==1)=false:=xv
 generalize xT x nl zB id=r at hnm d ⊢
 have y:(r !=0)=true:=by simpa using hnm
 have s:=V d
 clear a h hf hr hpl hfi h1 d hnm
 go_enter func58,ntmps58
 go_wp2_with (first
  |(go_at_call 119;refine c.mono ?_;rintro e z ⟨rfl,k⟩;have n:=V k;clear k c)
  |(go_at_call 105;refine(f z).mono ?_;rintro e A ⟨rfl,l⟩;have j:=V (zj n.o l);clear l f)
  |(go_at_call 106;refine(s.o A j.o).mono ?_;rintro e D ⟨rfl,m⟩;have p:=V (zj j.o m);clear m)
  |fail)
 go_ret
 exact⟨rfl,q,zL.of_below H.o p.o⟩
theorem kO (w:Oc)(g:Nat)(q:zW)(x:Acc)(id:Int)(nl:yx)(zB:Int)(h:zH w g q x)(hf:Fit x)(hnl:nl.length≤1099511627776)(i:Nat)(hi:i < x.zg.length)(hpl:xC id x.zg=(i:Int))(hfi:x.zg.find? (fun b=>decide (b.id=id))=some x.zg[i])(hr:zY nl=true)(h1:¬id=1)(hnm:xT x nl zB id=0)(hun:uL x.zg id (x.zg.length+1) zB=true) :
  C 58 #[Y g 0,I id,Oa nl,I zB] w (xJ w g q (yB zY x id nl zB)):=by
 have c:yB zY x id nl zB=(x,10):=by
  unfold yB
  rw[hfi]
  simp only
  rw[Om V8]
  rw[Om Vc]
  rw[OG hun]
 rw[c]
 have A:x.zg.length≤1099511627775:=vr
 have f:=vE g q.vb [] x.zg id w h.yZ (h.zg.reads [] zv) O
 have H:=V h
 have D:=V hf
 rw[hpl] at f
 have E:¬(i:Int) < 0:=O
 have k:=fun W=>x8 ⟨nl.toArray⟩ uP W
 rw[show zY (⟨nl.toArray⟩:Oy).data.toList=true from hr] at k
 have j:=fun W (hb:Od w w W)=>uT W g q x (h.later hb) O nl O zB id
 rw[hnm] at j
 have a:=fun W (hb:Od w w W)=>UR q.vb [] x.zg zB id W ((h.later hb).zg.reads [] zv) A
 rw[hun] at a
 have M:(id==1)=false:=xv
 obtain⟨K,L,l,_,_⟩:=h.zg.form
 have z:=V l
 rw[l] at a
 have y:=V j
 have n:=V a
 clear c h hr hpl hfi h1 j hnm hun a l hf
 go_enter func58,ntmps58
 go_wp2_with (first
  |(go_at_call 119;refine f.mono ?_;rintro e F ⟨rfl,p⟩;have u:=V p;clear p f)
  |(go_at_call 105;refine(k F).mono ?_;rintro e G ⟨rfl,r⟩;have m:=V (zj u.o r);clear r k)
  |(go_at_call 106;refine(y.o G m.o).mono ?_;rintro e J ⟨rfl,s⟩;have d:=V (zj m.o s);clear s;have B:=(H.o.later d.o).yZ;rw[z.o] at B)
  |(go_at_call 120;refine(n.o J d.o).mono ?_;rintro e N ⟨rfl,t⟩;have v:=V (zj d.o t);clear t n)
  |fail)
 go_ret
 exact⟨rfl,q,zL.of_below H.o v.o⟩
theorem nU (w:Oc)(g:Nat)(q:zW)(x:Acc)(id:Int)(nl:yx)(zB:Int)(h:zH w g q x)(hf:Fit x)(hnl:nl.length≤1099511627776)(i:Nat)(hi:i < x.zg.length)(hpl:xC id x.zg=(i:Int))(hfi:x.zg.find? (fun b=>decide (b.id=id))=some x.zg[i])(hr:zY nl=true)(h1:¬id=1)(hnm:xT x nl zB id=0)(hun:uL x.zg id (x.zg.length+1) zB=false)(hn1:x.zg[i].name=nl)(hp1:x.zg[i].zB=zB) :
  C 58 #[Y g 0,I id,Oa nl,I zB] w (xJ w g q (yB zY x id nl zB)):=by
 have c:yB zY x id nl zB=(x,0):=by
  unfold yB
  rw[hfi]
  simp only
  rw[Om V8]
  rw[Om Vc]
  rw[Om bH]
  rw[OG ⟨hn1,hp1⟩]
 rw[c]
 have G:x.zg.length≤1099511627775:=vr
 have f:=vE g q.vb [] x.zg id w h.yZ (h.zg.reads [] zv) O
 have H:=V h
 have K:=V hf
 rw[hpl] at f
 have R:¬(i:Int) < 0:=O
 have l:=fun W=>x8 ⟨nl.toArray⟩ uP W
 rw[show zY (⟨nl.toArray⟩:Oy).data.toList=true from hr] at l
 have j:=fun W (hb:Od w w W)=>uT W g q x (h.later hb) O nl O zB id
 obtain⟨b,m,F,hv,_,T,N,_,_⟩:=h.Vn i hi
 obtain⟨n,k⟩:∃n,x.zg.length=n:=⟨_,rfl⟩
 have hv2:=hv
 rw[k] at hv2
 have P:(i:Int) < (n:Int):=O
 have Q:(0:Int)≤(i:Int):=O
 have S:n≤1099511627775:=O
 obtain⟨y,hy⟩:∃y,x.zg[i]=y:=⟨_,rfl⟩
 have u:∀W,Od w w W→W.cell? (Y g 10)=some (RO (some (Y b m)) n F)∧W.cell? (Y b (m+i * 6+1))=some (RP ⟨y.name.toArray⟩)∧W.cell? (Y b (m+i * 6+2))=some (I y.zB):=fun W hb=>by
  exact lT
 have p:=V u
 rw[hy] at hn1 hp1
 have U:(y.name==nl)=true:=bI
 have X:(y.zB==zB)=true:=by simpa using hp1
 clear hn1 hp1
 rw[hnm] at j
 have a:=fun W (hb:Od w w W)=>UR q.vb [] x.zg zB id W ((h.later hb).zg.reads [] zv) G
 rw[hun,hv2] at a
 have hq:(id==1)=false:=xv
 have E:=V j
 have t:=V a
 have M:=V hv2
 have L:=V k
 have HY:=V hy
 clear hr hpl hfi h1 j hnm hun a hv hv2 u k hy c h hf
 go_enter func58,ntmps58
 go_wp2_with (first
  |(go_at_call 119;refine f.mono ?_;rintro e w1 ⟨rfl,v⟩;have D:=V v;clear v f)
  |(go_at_call 105;refine(l w1).mono ?_;rintro e w2 ⟨rfl,z⟩;have r:=V (zj D.o z);clear z l)
  |(go_at_call 106;refine(E.o w2 r.o).mono ?_;rintro e J ⟨rfl,A⟩;have d:=V (zj r.o A);clear A;obtain⟨a0,_,_⟩:=p.o J d.o)
  |(go_at_call 120;refine(t.o J d.o).mono ?_;rintro e w4 ⟨rfl,B⟩;have s:=V (zj d.o B);clear B t;obtain⟨a1,m1,m2⟩:=p.o w4 s.o)
  |fail)
 go_ret
 exact⟨rfl,q,zL.of_below H.o s.o⟩
theorem kK (w:Oc)(g:Nat)(q:zW)(x:Acc)(id:Int)(nl:yx)(zB:Int)(h:zH w g q x)(hf:Fit x)(hnl:nl.length≤1099511627776)(i:Nat)(hi:i < x.zg.length)(hpl:xC id x.zg=(i:Int))(hfi:x.zg.find? (fun b=>decide (b.id=id))=some x.zg[i])(hr:zY nl=true)(h1:¬id=1)(hnm:xT x nl zB id=0)(hun:uL x.zg id (x.zg.length+1) zB=false)(hn1:x.zg[i].name=nl)(hp1:¬x.zg[i].zB=zB)(hen:x.N3.ym≤x.zA) :
  C 58 #[Y g 0,I id,Oa nl,I zB] w (xJ w g q (yB zY x id nl zB)):=by
 have mr:yB zY x id nl zB=(x,11):=by
  unfold yB
  rw[hfi]
  simp only
  rw[Om V8]
  rw[Om Vc]
  rw[Om bH]
  rw[Om (fun hh=>hp1 hh.2)]
  rw[OG Va]
 rw[mr]
 have oo:x.zg.length≤1099511627775:=vr
 have jf:=vE g q.vb [] x.zg id w h.yZ (h.zg.reads [] zv) O
 have H:=V h
 have d:=V hf
 rw[hpl] at jf
 have k:¬(i:Int) < 0:=O
 have lg:=fun W=>x8 ⟨nl.toArray⟩ uP W
 rw[show zY (⟨nl.toArray⟩:Oy).data.toList=true from hr] at lg
 have ng:=fun W (hb:Od w w W)=>uT W g q x (h.later hb) O nl O zB id
 obtain⟨b,a,c,hv,_,m,e,_,_⟩:=h.Vn i hi
 obtain⟨n,ou⟩:∃n,x.zg.length=n:=⟨_,rfl⟩
 have hv2:=hv
 rw[ou] at hv2
 have f:(i:Int) < (n:Int):=O
 have j:(0:Int)≤(i:Int):=O
 have l:n≤1099511627775:=O
 obtain⟨y,hy⟩:∃y,x.zg[i]=y:=⟨_,rfl⟩
 have aj:∀W,Od w w W→W.cell? (Y g 10)=some (RO (some (Y b a)) n c)∧W.cell? (Y b (a+i * 6+1))=some (RP ⟨y.name.toArray⟩)∧W.cell? (Y b (a+i * 6+2))=some (I y.zB):=fun W hb=>by
  exact lT
 have mg:=V aj
 rw[hy] at hn1 hp1
 have o:(y.name==nl)=true:=bI
 have p:(y.zB==zB)=false:=by simpa using hp1
 clear hn1 hp1
 exact zzm9q
theorem kL (w:Oc)(g:Nat)(q:zW)(x:Acc)(id:Int)(nl:yx)(zB:Int)(h:zH w g q x)(hf:Fit x)(hnl:nl.length≤1099511627776)(i:Nat)(hi:i < x.zg.length)(hpl:xC id x.zg=(i:Int))(hfi:x.zg.find? (fun b=>decide (b.id=id))=some x.zg[i])(hr:zY nl=true)(h1:¬id=1)(hnm:xT x nl zB id=0)(hun:uL x.zg id (x.zg.length+1) zB=false)(hn1:¬x.zg[i].name=nl)(hen:x.N3.ym≤x.zA) :
  C 58 #[Y g 0,I id,Oa nl,I zB] w (xJ w g q (yB zY x id nl zB)):=by
 have mr:yB zY x id nl zB=(x,11):=by
  unfold yB
  rw[hfi]
  simp only
  rw[Om V8]
  rw[Om Vc]
  rw[Om bH]
  rw[Om (fun hh=>hn1 hh.1)]
  rw[OG Va]
 rw[mr]
 have oo:x.zg.length≤1099511627775:=vr
 have jf:=vE g q.vb [] x.zg id w h.yZ (h.zg.reads [] zv) O
 have H:=V h
 have d:=V hf
 rw[hpl] at jf
 have k:¬(i:Int) < 0:=O
 have lg:=fun W=>x8 ⟨nl.toArray⟩ uP W
 rw[show zY (⟨nl.toArray⟩:Oy).data.toList=true from hr] at lg
 have ng:=fun W (hb:Od w w W)=>uT W g q x (h.later hb) O nl O zB id
 obtain⟨b,a,c,hv,_,m,e,_,_⟩:=h.Vn i hi
 obtain⟨n,ou⟩:∃n,x.zg.length=n:=⟨_,rfl⟩
 have hv2:=hv
 rw[ou] at hv2
 have f:(i:Int) < (n:Int):=O
 have j:(0:Int)≤(i:Int):=O
 have l:n≤1099511627775:=O
 obtain⟨y,hy⟩:∃y,x.zg[i]=y:=⟨_,rfl⟩
 have aj:∀W,Od w w W→W.cell? (Y g 10)=some (RO (some (Y b a)) n c)∧W.cell? (Y b (a+i * 6+1))=some (RP ⟨y.name.toArray⟩)∧W.cell? (Y b (a+i * 6+2))=some (I y.zB):=fun W hb=>by
  exact lT
 have mg:=V aj
 rw[hy] at hn1
 have o:(y.name==nl)=false:=bI
 clear hn1
 exact zzm9q
theorem tX (w:Oc)(g:Nat)(q:zW)(x:Acc)(id:Int)(nl:yx)(zB:Int)(h:zH w g q x)(hf:Fit x)(hnl:nl.length≤1099511627776)(i:Nat)(hi:i < x.zg.length)(hpl:xC id x.zg=(i:Int))(hfi:x.zg.find? (fun b=>decide (b.id=id))=some x.zg[i])(hr:zY nl=true)(h1:¬id=1)(hnm:xT x nl zB id=0)(hun:uL x.zg id (x.zg.length+1) zB=false)(hset:∀f,xK id f x.zg=x.zg.set i (f x.zg[i]))(hyid:x.zg[i].id=id)(hn1:x.zg[i].name=nl)(hp1:¬x.zg[i].zB=zB)(hen:¬x.N3.ym≤x.zA) :
  C 58 #[Y g 0,I id,Oa nl,I zB] w (xJ w g q (yB zY x id nl zB)):=by
 obtain⟨rr,a⟩:∃rr,yB zY x id nl zB=rr:=⟨_,rfl⟩
 have mr:rr=({x with zA:=x.zA+1,zg:=zI (x.zA+1) [id] (x.zg.set i {x.zg[i] with name:=nl,zB:=zB}),log:=x.log.add (zX (x.zA+1) [id])},0):=by
  rw[←a]
  unfold yB
  rw[hfi]
  simp only
  rw[Om V8]
  rw[Om Vc]
  rw[Om bH]
  rw[Om (fun hh=>hp1 hh.2)]
  rw[Om Jz,hset]
 rw[a]
 clear hset a
 have oo:x.zg.length≤1099511627775:=vr
 have jf:=vE g q.vb [] x.zg id w h.yZ (h.zg.reads [] zv) O
 have H:=V h
 have qf:=V hf
 rw[hpl] at jf
 have j:¬(i:Int) < 0:=O
 have lg:=fun W=>x8 ⟨nl.toArray⟩ uP W
 rw[show zY (⟨nl.toArray⟩:Oy).data.toList=true from hr] at lg
 have ng:=fun W (hb:Od w w W)=>uT W g q x (h.later hb) O nl O zB id
 obtain⟨b,off,cap,hv,_,l,c,_,_⟩:=h.Vn i hi
 obtain⟨n,ou⟩:∃n,x.zg.length=n:=⟨_,rfl⟩
 have hv2:=hv
 rw[ou] at hv2
 have d:(i:Int) < (n:Int):=O
 have e:(0:Int)≤(i:Int):=O
 have k:n≤1099511627775:=O
 obtain⟨y,hy⟩:∃y,x.zg[i]=y:=⟨_,rfl⟩
 have aj:∀W,Od w w W→W.cell? (Y g 10)=some (RO (some (Y b off)) n cap)∧W.cell? (Y b (off+i * 6+1))=some (RP ⟨y.name.toArray⟩)∧W.cell? (Y b (off+i * 6+2))=some (I y.zB):=fun W hb=>by
  exact lT
 have mg:=V aj
 rw[hy] at hn1 hp1
 have m:(y.name==nl)=true:=bI
 have o:(y.zB==zB)=false:=by simpa using hp1
 clear hn1 hp1
 exact zzm1q
theorem tY (w:Oc)(g:Nat)(q:zW)(x:Acc)(id:Int)(nl:yx)(zB:Int)(h:zH w g q x)(hf:Fit x)(hnl:nl.length≤1099511627776)(i:Nat)(hi:i < x.zg.length)(hpl:xC id x.zg=(i:Int))(hfi:x.zg.find? (fun b=>decide (b.id=id))=some x.zg[i])(hr:zY nl=true)(h1:¬id=1)(hnm:xT x nl zB id=0)(hun:uL x.zg id (x.zg.length+1) zB=false)(hset:∀f,xK id f x.zg=x.zg.set i (f x.zg[i]))(hyid:x.zg[i].id=id)(hn1:¬x.zg[i].name=nl)(hen:¬x.N3.ym≤x.zA) :
  C 58 #[Y g 0,I id,Oa nl,I zB] w (xJ w g q (yB zY x id nl zB)):=by
 obtain⟨rr,a⟩:∃rr,yB zY x id nl zB=rr:=⟨_,rfl⟩
 have mr:rr=({x with zA:=x.zA+1,zg:=zI (x.zA+1) [id] (x.zg.set i {x.zg[i] with name:=nl,zB:=zB}),log:=x.log.add (zX (x.zA+1) [id])},0):=by
  rw[←a]
  unfold yB
  rw[hfi]
  simp only
  rw[Om V8]
  rw[Om Vc]
  rw[Om bH]
  rw[Om (fun hh=>hn1 hh.1)]
  rw[Om Jz,hset]
 rw[a]
 clear hset a
 have oo:x.zg.length≤1099511627775:=vr
 have jf:=vE g q.vb [] x.zg id w h.yZ (h.zg.reads [] zv) O
 have H:=V h
 have qf:=V hf
 rw[hpl] at jf
 have j:¬(i:Int) < 0:=O
 have lg:=fun W=>x8 ⟨nl.toArray⟩ uP W
 rw[show zY (⟨nl.toArray⟩:Oy).data.toList=true from hr] at lg
 have ng:=fun W (hb:Od w w W)=>uT W g q x (h.later hb) O nl O zB id
 obtain⟨b,off,cap,hv,_,l,c,_,_⟩:=h.Vn i hi
 obtain⟨n,ou⟩:∃n,x.zg.length=n:=⟨_,rfl⟩
 have hv2:=hv
 rw[ou] at hv2
 have d:(i:Int) < (n:Int):=O
 have e:(0:Int)≤(i:Int):=O
 have k:n≤1099511627775:=O
 obtain⟨y,hy⟩:∃y,x.zg[i]=y:=⟨_,rfl⟩
 have aj:∀W,Od w w W→W.cell? (Y g 10)=some (RO (some (Y b off)) n cap)∧W.cell? (Y b (off+i * 6+1))=some (RP ⟨y.name.toArray⟩)∧W.cell? (Y b (off+i * 6+2))=some (I y.zB):=fun W hb=>by
  exact lT
 have mg:=V aj
 rw[hy] at hn1
 have m:(y.name==nl)=false:=bI
 clear hn1
 exact zzm1q
theorem nT (w:Oc)(g:Nat)(q:zW)(x:Acc)(id:Int)(nl:yx)(zB:Int)(h:zH w g q x)(hf:Fit x)(hnl:nl.length≤1099511627776) :
  C 58 #[Y g 0,I id,Oa nl,I zB] w (xJ w g q (yB zY x id nl zB)):=by
 cases p:zZ x.zg id with
 |false=>exact nS w g q x id nl zB h hf hnl p
 |true=>
  obtain⟨i,j,b,n,_,m,a⟩:=YR ((uv x.zg id).1 p)
  cases k:zY nl with
  |false=>exact tW w g q x id nl zB h hf hnl i j b a k
  |true=>
   by_cases l:id=1
   ·exact tZ w g q x id nl zB h hf hnl i j b a k l
   by_cases c:xT x nl zB id=0
   case neg=>exact kN w g q x id nl zB h hf hnl i j b a k l c
   cases d:uL x.zg id (x.zg.length+1) zB with
   |true=>exact kO w g q x id nl zB h hf hnl i j b a k l c d
   |false=>
    by_cases f:x.zg[i].name=nl
    ·by_cases o:x.zg[i].zB=zB
     ·exact nU w g q x id nl zB h hf hnl i j b a k l c d f o
     ·by_cases e:x.N3.ym≤x.zA
      ·exact kK w g q x id nl zB h hf hnl i j b a k l c d f o e
      ·exact tX w g q x id nl zB h hf hnl i j b a k l c d m n f o e
    ·by_cases e:x.N3.ym≤x.zA
     ·exact kL w g q x id nl zB h hf hnl i j b a k l c d f e
     ·exact tY w g q x id nl zB h hf hnl i j b a k l c d m n f e
end Go.Proofs.YtnofkliaofgiaaaGreatDoor
