/-
  The walks of an email's copy, and of the store's Mails. The library's Delete of one element out of a slice of the account's mailboxes, of its emails.
-/
import Derived.Test.YtnofkliaofgiaaaGreatDoorGE
import Derived.Test.YtnofkliaofgiaaaGreatDoorGD
import Derived.Deep.QuietTactic
import Derived.Deep.RegionLaw
import Derived.Deep.DrawnRows
set_option maxRecDepth 100000
set_option maxHeartbeats 8000000
open Go.Proofs.Tryz
open Array renaming length_toList→PL
open Exists renaming intro→OA
open Go renaming Program→Pv,TypeId→Pa,Value→Oe,World→Oc
open Go.Builtin renaming clear_→P4,zeroCells→PT
open Go.Ending renaming returned→RR
open Go.IntKind renaming i64→Ov
open Go.IntWalk renaming i64_in→Og
open Go.Proofs renaming enters_of→O9
open Go.RowKit renaming Below→Od
open Go.RowKit.Below renaming refl→Ok,size→Rg
open Go.Value renaming slice→RO,string→RP
open Go.World renaming size_alloc→O3
open List renaming append_assoc→O4,getElem?_eq_getElem→Ot,getElem?_eq_some_iff→OX,getElem_mem→Oj,length_append→Oo,length_cons→OT,length_drop→O8,length_take→OU,map_append→OQ,mem_append→OO,mem_map→OL,mem_map_of_mem→OV,mem_of_mem_drop→Re,mem_singleton→OI,size_toArray→PC,take_of_length_le→Ou,take_succ_eq_append_getElem→Oh
open Nat renaming add_assoc→O1,le_refl→Oq,le_trans→Ol,lt_of_lt_of_le→OJ,zero_le→OE
open _root_ renaming ByteArray→Oy,List→Ob,Option→OC,if_pos→OG
namespace Go.Proofs.YtnofkliaofgiaaaGreatDoor
open Go.Shelf Go.RowKit
attribute [local go_sem ↓] Go.wp_at_zero Go.wp_at_succ
theorem Try.infoMail2:(prog.info? 83).map (fun i=>(i.zero,i.size,i.bytes))=some (some (.agg #[I 0,I 0,RP ⟨#[]⟩,I 0,RO none 0 0,RO none 0 0,I 0,I 0]),8,104):=zQ
theorem rX (w:Oc)(a0 a1 a3 a6 a7:Int)(s2:Oy)(vk vm:Oe)(nk nm:Nat)(xk xm:Ob Oe)(hk:NN w [] 1 vk nk xk)(hm:NN w [] 2 vm nm xm)(hk1:∀u∈xk,u.oneCell'=true)(hm1:∀u∈xm,u.oneCell'=true)(hnk:nk≤1099511627776)(hnm:nm≤1099511627776) :
  C 113 #[.agg #[I a0,I a1,.string s2,I a3,vk,vm,I a6,I a7]] w fun e w'=>∃vk' hk' vm' hm',e=RR (.agg #[I a0,I a1,.string s2,I a3,vk',vm',I a6,I a7])∧Sl w' 9 1 vk' hk' nk xk∧Sl w' 153 2 vm' hm' nm xm∧(∀b,hk'=some b→w.heap.size≤b)∧(∀b,hm'=some b→w.heap.size≤b)∧Od w w w':=by
 have R:=fun W (f:Od w w W)=>cD W vk nk xk (hk.keep f.size (fun b h _=>f.block b h) (fun _ _ h=>h)) hk1 O
 have z:=fun W (f:Od w w W)=>JT W vm nm xm (hm.keep f.size (fun b h _=>f.block b h) (fun _ _ h=>h)) hm1 hnm
 have U:=V R
 have T:=V z
 clear R z hk hm
 go_enter func113,ntmps113
 go_wp2
 obtain⟨l,g⟩:∃l:Oc,l=(w.alloc (.cells #[I a0,I a1,.string s2,I a3,vk,vm,I a6,I a7] 83)).alloc (.cells #[I 0,I 0,RP ⟨#[]⟩,I 0,RO none 0 0,RO none 0 0,I 0,I 0] 83):=⟨_,rfl⟩
 rw[←g]
 have i:NG l w.heap.size 83 #[I a0,I a1,.string s2,I a3,vk,vm,I a6,I a7]:=by
  rw[g]
  exact(NG.new w _ _).below (zt _ _) zv
 have x:NG l (w.heap.size+1) 83 #[I 0,I 0,RP ⟨#[]⟩,I 0,RO none 0 0,RO none 0 0,I 0,I 0]:=by
  rw[g]
  have P:=NG.new (w.alloc (.cells #[I a0,I a1,.string s2,I a3,vk,vm,I a6,I a7] 83)) 83 #[I 0,I 0,RP ⟨#[]⟩,I 0,RO none 0 0,RO none 0 0,I 0,I 0]
  rw[O3] at P
  exact P
 have y:Od w w l:=by
  rw[g]
  exact zj (zt _ _) (zt _ _)
 have k4:l.cell? (Y w.heap.size 4)=some vk:=i.cell 4
 have k5:l.cell? (Y w.heap.size 5)=some vm:=i.cell 5
 have s:=V i
 have D:=V x
 have E:=V y
 clear g i x y
 go_region_law (first
  |(refine yK zF zF (O9 func143 zQ rfl) yl (U.o _ (zj E.o (zG _))) ?_;rintro e w2 ⟨v2,Q,rfl,q,n,A⟩;obtain⟨F,H,rfl,_,_⟩:=q.form;refine⟨_,rfl,?_⟩;have m:=V (uk n);have m5:w2.cell? (Y w.heap.size 5)=some vm:=(s.o.below (uk n) s.o.lt).cell 5;have X:=V q;have M:Z (∀b,Q=some b→l.heap.size≤b):=V (fun b f=>A b f);clear q n A)
  |(refine yK zF zF (O9 func97 zQ rfl) yl (T.o _ (zj E.o m.o)) ?_;rintro e c ⟨v3,t,rfl,r,j,B⟩;obtain⟨G,J,rfl,_,_⟩:=r.form;refine⟨_,rfl,?_⟩;have L:=V j;have d:=(s.o.below m.o s.o.lt).below j (OJ s.o.lt m.o.size);have a:=(D.o.below m.o D.o.lt).below j (OJ D.o.lt m.o.size);have n0:c.cell? (Y w.heap.size 0)=some (I a0):=d.cell 0;have n1:c.cell? (Y w.heap.size 1)=some (I a1):=d.cell 1;have n2:c.cell? (Y w.heap.size 2)=some (.string s2):=d.cell 2;have n3:c.cell? (Y w.heap.size 3)=some (I a3):=d.cell 3;have n4:c.cell? (Y w.heap.size 4)=some (vk):=d.cell 4;have a2:c.frozen? (Y w.heap.size 4)=false:=d.frozen 4;have n5:c.cell? (Y w.heap.size 5)=some (vm):=d.cell 5;have a4:c.frozen? (Y w.heap.size 5)=false:=d.frozen 5;have n6:c.cell? (Y w.heap.size 6)=some (I a6):=d.cell 6;have n7:c.cell? (Y w.heap.size 7)=some (I a7):=d.cell 7;have r0:c.cell? (Y (w.heap.size+1) 0)=some (I 0):=a.cell 0;have a5:c.frozen? (Y (w.heap.size+1) 0)=false:=a.frozen 0;have r1:c.cell? (Y (w.heap.size+1) 1)=some (I 0):=a.cell 1;have a8:c.frozen? (Y (w.heap.size+1) 1)=false:=a.frozen 1;have r2:c.cell? (Y (w.heap.size+1) 2)=some (RP ⟨#[]⟩):=a.cell 2;have a9:c.frozen? (Y (w.heap.size+1) 2)=false:=a.frozen 2;have r3:c.cell? (Y (w.heap.size+1) 3)=some (I 0):=a.cell 3;have aa:c.frozen? (Y (w.heap.size+1) 3)=false:=a.frozen 3;have r4:c.cell? (Y (w.heap.size+1) 4)=some (RO none 0 0):=a.cell 4;have ab:c.frozen? (Y (w.heap.size+1) 4)=false:=a.frozen 4;have r5:c.cell? (Y (w.heap.size+1) 5)=some (RO none 0 0):=a.cell 5;have ac:c.frozen? (Y (w.heap.size+1) 5)=false:=a.frozen 5;have r6:c.cell? (Y (w.heap.size+1) 6)=some (I 0):=a.cell 6;have ad:c.frozen? (Y (w.heap.size+1) 6)=false:=a.frozen 6;have r7:c.cell? (Y (w.heap.size+1) 7)=some (I 0):=a.cell 7;have ae:c.frozen? (Y (w.heap.size+1) 7)=false:=a.frozen 7;have N1:=V d;have N2:=V a;have S3:=V r;have N:Z (∀b,t=some b→l.heap.size≤b):=V (fun b f=>Ol (Rg m.o) (B b f));clear r j B d a)
  |fail)
 all_goals
  go_wp2
  have K:NH [w.heap.size,w.heap.size+1] c _:=((((((((((NH.refl [w.heap.size,w.heap.size+1] c).set (p:=⟨w.heap.size,4,none⟩) (.inl zv) (RO F nk H)).set (p:=⟨w.heap.size,5,none⟩) (.inl zv) (RO G nm J)).set (p:=⟨w.heap.size+1,0,none⟩) (.inl zv) (I a0)).set (p:=⟨w.heap.size+1,1,none⟩) (.inl zv) (I a1)).set (p:=⟨w.heap.size+1,2,none⟩) (.inl zv) (.string s2)).set (p:=⟨w.heap.size+1,3,none⟩) (.inl zv) (I a3)).set (p:=⟨w.heap.size+1,4,none⟩) (.inl zv) (RO F nk H)).set (p:=⟨w.heap.size+1,5,none⟩) (.inl zv) (RO G nm J)).set (p:=⟨w.heap.size+1,6,none⟩) (.inl zv) (I a6)).set (p:=⟨w.heap.size+1,7,none⟩) (.inl zv) (I a7)
  have hl:=D.o.lt
  have S:=E.o.size
  refine bodyPost_ret (v:=.agg #[I a0,I a1,.string s2,I a3,RO F nk H,RO G nm J,I a6,I a7]) ?_ rfl ⟨_,Q,_,t,rfl,(X.o.N4 (NH.of_below L.o []) zv).N4 K ?_,S3.o.N4 K ?_,fun b f=>Ol S (M.o b f),fun b f=>Ol S (N.o b f),?_⟩
  ·simp[results,Tryz.results113,go_sem,r0,r1,r2,r3,r4,r5,r6,r7]
  ·intro b f hm
   have:=M.o b f
   simp at hm
   omega
  ·intro b f hm
   have:=N.o b f
   simp at hm
   omega
  ·have t:=zj E.o (zj m.o L.o)
   refine t.trans (K.below t.size (fun k hk=>?_))
   simp at hk
   omega
def JN (w:Oc)(B:Nat)(m:xd):Prop:=∃hk hm,Sl w 9 1 m.kv hk m.p.keys.length (m.p.keys.map encStr)∧Sl w 153 2 m.mv hm m.p.zr.length (zU yC m.p.zr)∧(∀b,hk=some b→B≤b)∧∀b,hm=some b→B≤b
def VD (w:Oc)(S:Ob Nat)(v:Oe)(l:Ob zR):Prop:=∃ms:Ob xd,ms.map (·.p)=l∧NN w S 8 v ms.length (zU xV ms)∧∀m∈ms,xB w S m
theorem VD.keep {w w':Oc}{S T:Ob Nat}{v:Oe}{l:Ob zR}(h:VD w S v l)(hsz:w.heap.size≤w'.heap.size)(hk:∀b,b < w.heap.size→b∉S→w'.heap[b]?=w.heap[b]?)(hT:∀b,b < w.heap.size→b∉S→b∉T):VD w' T v l:=by
 obtain⟨e,a,c,d⟩:=h
 exact⟨e,a,c.keep hsz hk hT,fun m hm=>(d m hm).keep hsz hk hT⟩
structure ZF (w wr:Oc)(ms:Ob xd)(k:Nat)(o:Oe):Prop where
 below:Od w w wr
 o:∃mc h,Sl wr 83 8 o h k (zU xV mc)∧mc.map (·.p)=(ms.map (·.p)).take k∧(∀b,h=some b→w.heap.size≤b)∧∀m∈mc,JN wr w.heap.size m
theorem JN.below {w wr w':Oc}{m:xd}(h:JN wr w.heap.size m)(hb:Od wr wr w'):JN w' w.heap.size m:=by
 obtain⟨a,b,c,d,e,f⟩:=h
 exact⟨a,b,c.keep (fun b hb2=>hb.block b (c.lt b hb2)),d.keep (fun b hb2=>hb.block b (d.lt b hb2)),e,f⟩
theorem ZF.next {w wr W W2:Oc}{ms:Ob xd}{k:Nat}{o o2:Oe}{h1 h2:OC Nat}{mc:Ob xd}{m:xd}(hR:Od w w wr)(hk:k < ms.length)(hmc:mc.map (·.p)=(ms.map (·.p)).take k)(hpp:∀m∈mc,JN wr w.heap.size m)(hb:Od wr wr W)(hm:m.p=ms[k].p)(hp:JN W w.heap.size m)(hs1:Sl W 83 8 o h1 k (zU xV mc))(hf1:∀b,h1=some b→w.heap.size≤b)(hs2:Sl W2 83 8 o2 h2 (k+1) (zU xV mc++xV m))(hc2:NH h1.toList W W2)(ho2:h2=h1∨∃g,h2=some g∧W.heap.size≤g):ZF w W2 ms (k+1) o2:=by
 have c:=zj hR hb
 refine⟨c.trans (hc2.below c.size (fun k hk=>hf1 k yi)),mc++[m],h2,?_,?_,fun b hb=>?_,fun y hy=>?_⟩
 ·rw[uI]
  exact hs2
 ·rw[OQ,hmc,Oh yi]
  simp[hm]
 ·rcases ho2 with h3|⟨d,h3,h4⟩
  ·exact hf1 b V2
  ·rw[h3] at hb
   injection hb with hb
   have:=c.size
   omega
 ·have e:JN W w.heap.size y:=by
   rcases OO.1 hy with h5|h5
   ·exact(hpp y h5).below hb
   ·rw[OI] at h5
    rw[h5]
    exact hp
  obtain⟨a,b,f,d,h,i⟩:=e
  exact⟨a,b,f.N4 hc2 (fun b hb hm=>f.np hs1 zD b hb yT),d.N4 hc2 (fun b hb hm=>d.np hs1 zD b hb yT),h,i⟩
theorem ZF.done {w wr:Oc}{ms:Ob xd}{o:Oe}{S:Ob Nat}{l:Ob zR}(h:ZF w wr ms ms.length o)(hS:∀b∈S,b < w.heap.size)(hl:ms.map (·.p)=l):VD wr S o l:=by
 obtain⟨i,s,n,e,q,r⟩:=h.o
 rw[Ou zv] at e
 have d:i.length=ms.length:=by simpa using congrArg List.length e
 have c:∀h:OC Nat,(∀b,h=some b→w.heap.size≤b)→∀b,h=some b→b∉S:=fun h hf b hb hm=>by
  have:=hS b hm
  have:=hf b hb
  omega
 refine⟨i,e.trans hl,?_,fun m hm=>?_⟩
 ·rw[d]
  exact n.reads _ (c _ q)
 ·obtain⟨a,b,f,g,j,k⟩:=r m hm
  exact⟨f.reads _ (c _ j),g.reads _ (c _ k),f.ty,g.ty⟩
def Qt (x:Acc):Prop:=x.zC.length≤1099511627776∧∀m∈x.zC,m.keys.length≤1099511627776∧m.zr.length≤1099511627776
theorem CF (w:Oc)(g:Nat)(q:zW)(x:Acc)(h:zH w g q x)(hn:Qt x) :
  C 53 #[Y g 0] w fun e w'=>∃A c,e=RR (RO A x.zC.length c)∧ZF w w' q.ms q.ms.length (RO A x.zC.length c):=by
 obtain⟨i0,hi,av,aw,az⟩:=info_parts Try.infoMail2
 have F:=h.XC
 have G:=h.xj
 obtain⟨Am,cm,N,_,_⟩:=h.zC.form
 rw[N] at G
 obtain⟨n,B⟩:∃n,x.zC.length=n:=⟨_,rfl⟩
 rw[B] at G F ⊢
 have ar:=hn.1
 rw[B] at ar
 have an:Z (ZF w w q.ms 0 (RO none 0 0)):=V ⟨Ok _ _,[],none,Sl.nil _ _ _,zv,fun b hb=>(by cases hb),fun m hm=>(by cases hm)⟩
 have HW:=V h
 have HN:=V hn
 have ai:=V B
 have am:=V N
 clear h hn B N
 go_enter func53,ntmps53
 go_wp2
 go_loopw [3,13] (fun o i wr=>∃k:Nat,k≤n∧i=I k∧Z (ZF w wr q.ms k o)) (fun _ i _=>n - (intOf i).toNat)
 case atStart=>exact⟨0,OE _,rfl,an⟩
 case round=>
  obtain⟨k,hk,rfl,t⟩:=hrel
  by_cases af:k < n
  ·have y:k < q.ms.length:=O
   obtain⟨b,f,a',hv,_,_,_,a6,a4⟩:=HW.o.ud k vN y
   have au:=hv.symm.trans am.o
   injection au with hv3 _ hv4
   subst hv3 hv4
   have a:∀j,j < 8→wr.cell? (Y b (f+k * 8+j))=(xV q.ms[k])[j]?:=fun j hj=>(t.o.below.cell a6).trans (a4 j hj).1
   obtain⟨d,L⟩:∃d,q.ms[k]=d:=⟨_,rfl⟩
   have l:=(HW.o.parts q.ms[k] (Oj y))
   have E:=HN.o.2 q.ms[k].p (by rw[←HW.o.same];exact OV (Oj y))
   rw[L] at a l E
   have e0:wr.cell? (Y b (f+k * 8))=some (I d.p.id):=a 0 O
   have e1:wr.cell? (Y b (f+k * 8+1))=some (I d.p.thread):=a 1 O
   have e2:wr.cell? (Y b (f+k * 8+2))=some (RP ⟨d.p.text.toArray⟩):=a 2 O
   have e3:wr.cell? (Y b (f+k * 8+3))=some (I d.p.at_):=a 3 O
   have e4:wr.cell? (Y b (f+k * 8+4))=some d.kv:=a 4 O
   have e5:wr.cell? (Y b (f+k * 8+5))=some d.mv:=a 5 O
   have e6:wr.cell? (Y b (f+k * 8+6))=some (I d.p.mod):=a 6 O
   have e7:wr.cell? (Y b (f+k * 8+7))=some (I d.p.born):=a 7 O
   obtain⟨Ak,ck,K,_,_⟩:=l.keys.form
   obtain⟨Av,cv,M,_,_⟩:=l.mem.form
   rw[K] at e4
   rw[M] at e5
   have J:∀W,Od wr wr W→_:=fun W (hb:Od wr wr W)=>rX W d.p.id d.p.thread d.p.at_ d.p.mod d.p.born ⟨d.p.text.toArray⟩ d.kv d.mv _ _ _ _ (l.keys.keep (T:=[]) (zj t.o.below hb).size (fun b h _=>(zj t.o.below hb).block b h) (fun _ _ _ h=>by cases h)) (l.mem.keep (T:=[]) (zj t.o.below hb).size (fun b h _=>(zj t.o.below hb).block b h) (fun _ _ _ h=>by cases h)) (fun u hu=>by obtain⟨s,_,rfl⟩:=OL.1 hu;rfl) (XQ U0 _) E.1 E.2
   rw[K,M] at J
   obtain⟨mc,h0,r,z,v,D⟩:=t.o.o
   obtain⟨A0,c0,rfl,_,_⟩:=r.form
   have ab:=V J
   have X:=V r
   have ae:=V z
   have ac:=V v
   have ag:=V D
   have ad:=V L
   clear J r z v D L a4 a l E K M G
   go_wp2_with (first
    |(go_at_call 113;refine(ab.o _ (zt _ _)).mono ?_;rintro e w4 ⟨b0,ao,b1,aq,rfl,P,Q,a2,a3,a5⟩;obtain⟨R,a0,rfl,_,_⟩:=P.form;obtain⟨S,a1,rfl,_,_⟩:=Q.form;have H:=zj (zt _ _) a5;have aa:=V H;have HO:=V (X.o.keep (fun b hb=>H.block b (X.o.lt b hb)));have al:Z (JN w4 w.heap.size ⟨d.p,RO R d.p.keys.length a0,RO S d.p.zr.length a1⟩):=V ⟨ao,aq,P,Q,fun b hb=>Ol (Ol t.o.below.size (by rw[O3];omega)) (a2 b hb),fun b hb=>Ol (Ol t.o.below.size (by rw[O3];omega)) (a3 b hb)⟩;clear P Q a2 a3 a5 H)
    |(at_builtin;refine yc rfl _ _ 117 rfl underlying117 hi av aw az rfl zD HO.o rfl 1 1 rfl rfl ?_ ?_ ?_ ?_)
    |fail)
   ·simp[Value.oneCell']
   ·unfold maxLen
    omega
   ·omega
   ·intro v2 h2 w5 a9 a7 a8
    have U:Z (ZF w w5 q.ms (k+1) v2):=V (ZF.next (m:=⟨d.p,RO R d.p.keys.length a0,RO S d.p.zr.length a1⟩) t.o.below y ae.o ag.o aa.o (by rw[ad.o]) al.o HO.o ac.o a9 a7 a8)
    clear a9 a7 a8
    go_wp2
    refine⟨?_,zV⟩
    first|exact⟨k+1,O,zE,U⟩|((repeat apply OA);exact⟨⟨k+1,O,zE,U⟩,rfl⟩)
  ·have ap:k=n:=O
   subst ap
   have hl:q.ms.length=k:=F
   obtain⟨mc,h0,r,z,v,D⟩:=t.o.o
   obtain⟨A0,c0,rfl,_,_⟩:=r.form
   have HF:Z (ZF w wr q.ms q.ms.length (RO A0 k c0)):=V (by rw[hl];exact t.o)
   clear r z v D
   go_wp2
   go_ret
   exact⟨_,_,rfl,HF.o⟩
theorem cP (w:Oc)(g:Nat)(q:zW)(x:Acc)(h:zH w g q x)(hn:Qt x)(S:Ob Nat)(hS:∀b∈S,b < w.heap.size) :
  C 53 #[Y g 0] w fun e w'=>∃A c,e=RR (RO A x.zC.length c)∧VD w' S (RO A x.zC.length c) x.zC∧Od w w w':=by
 refine(CF w g q x h hn).mono ?_
 rintro e w' ⟨A,c,rfl,a⟩
 exact⟨A,c,rfl,a.done hS h.same,a.below⟩
theorem Xl {P:Pv}(w:Oc)(t e ty:Pa)(z:Oe)(zs:Ob Oe)(ht:P.underlying t=some (.slice e))(hv:∀w,(zeroValue e).run P w=.ok z w)(hz:z.cells=zs.toArray)(h1:∀u∈zs,u.oneCell'=true)(b o c:Nat)(hc:∀j,j < zs.length→(w.cell? (Y b (o+j))).isSome=true)(hf:∀j,j < zs.length→w.frozen? (Y b (o+j))=false) :
  (P4 #[t] ty #[RO (some (Y b o)) 1 c]).run P w=.ok (.tuple #[]) (w.setCells b o zs):=by
 have d:(PT z.cells 1).toList=zs:=by
  rw[hz]
  simp only[PT,PC,Nat.one_mul]
  apply List.ext_getElem
  ·simp
  ·intro i h1 f
   simp[Nat.mod_eq_of_lt f,f]
 have a:=run_storeCells_cells (P:=P) b o zs 0 w vM (by simpa using hf) h1
 simp only[Nat.add_zero] at a
 simp[P4,run_underlying ht,hv,d,a]
theorem KA (w:Oc)(v:Oe)(h:OC Nat)(n:Nat)(xs:Ob Oe)(hs:Sl w 83 8 v h n xs)(h1:∀u∈xs,u.oneCell'=true)(hn:n≤1099511627776)(i:Nat)(hi:i < n) :
  C 102 #[v,I i,I ((i:Int)+1)] w fun e w'=>∃v',e=RR v'∧Sl w' 83 8 v' h (n - 1) (xs.take (i * 8)++xs.drop ((i+1) * 8))∧NH h.toList w w':=by
 obtain⟨X,E,T,G,U⟩:=info_parts Try.infoMail2
 have F:=hs.1
 rcases hs.2 with⟨_,_,h0⟩|⟨b,off,cap,cur,rfl,rfl,hB,hnc,hcm,hcs,htake⟩
 ·omega
 have c:∀j,j < n * 8→w.cell? (Y b (off+j))=xs[j]?:=fun j hj=>by
  exact oY
 obtain⟨Dx,a⟩:∃Dx,Dx=xs.drop ((i+1) * 8):=⟨_,rfl⟩
 have hlen:Dx.length=(n - (i+1)) * 8:=by
  rw[a,O8,F]
  omega
 have S:Ov.wrap ((i:Int)+1)=(i:Int)+1:=Og _ O
 have q1:(0:Int)≤(i:Int):=O
 have q2:(i:Int)≤(i:Int)+1:=O
 have q3:(i:Int)+1≤(n:Int):=O
 have q6:(0:Int)≤(i:Int)+1:=O
 have q4:(n:Int)≤(cap:Int):=O
 have q5:((i:Int)==(i:Int)+1)=false:=pH
 have N:i≤cap:=O
 have Q:i+1≤cap:=O
 clear hs
 obtain⟨A,hA,r⟩:∃A:Addr,(if cap=i+1 then (some ((Y b off):Addr)) else some ⟨b,off+(i+1) * 8,none⟩)=some A∧Z (∀t u,Dx[t]?=some u→w.drew.cell? (A.add t)=some u):=by
  by_cases h:cap=i+1
  ·exact Kh
  ·refine⟨(Y b (off+(i+1) * 8)),ZE,V (fun t u hu=>?_)⟩
   have H:t < (n - (i+1)) * 8:=by
    have:=(OX.1 hu).1
    rwa [hlen] at this
   rw[a,List.getElem?_drop] at hu
   rw[Addr.add_lit,show off+(i+1) * 8+t=off+((i+1) * 8+t) by omega]
   exact(c ((i+1) * 8+t) O).trans hu
 have s1:=V hlen
 have s2:Z (∀u∈Dx,u.oneCell'=true):=V (fun u hu=>by
  rw[a] at hu
  exact h1 u (Re hu))
 have s3:Z (∀t,t < Dx.length→(w.drew.cell? (Y b (off+i * 8+t))).isSome=true∧w.drew.frozen? (Y b (off+i * 8+t))=false):=V (fun t H=>by
  rw[hlen] at H
  refine⟨?_,hB.frozen _⟩
  show (w.cell? _).isSome=true
  rw[O1,c (i * 8+t) O,Ot O]
  rfl)
 obtain⟨d,k⟩:∃d,d=w.drew.setCells b (off+i * 8) Dx:=⟨_,rfl⟩
 have g:NG d b 83 (cur.toList.take (off+i * 8)++Dx++cur.toList.drop (off+i * 8+Dx.length)).toArray:=by
  rw[k]
  exact xL b 83 Dx (off+i * 8) w.drew cur (hB.heap (w':=w.drew) rfl) O
 obtain⟨s,x,y,u4⟩:=xM b Dx (off+i * 8) w.drew
 rw[←k] at s x y u4
 have p:NH [b] w d:=⟨s,x,y,Nat.le_of_eq u4.symm,fun j _ hj=>by
  rw[k]
  exact xY b Dx _ w.drew j vL⟩
 have qd:(cur.toList.take (off+i * 8)++Dx++cur.toList.drop (off+i * 8+Dx.length)).length=cur.size:=by
  exact oX
 obtain⟨f,l⟩:∃f,f=cur.toList.take (off+i * 8)++Dx++cur.toList.drop (off+i * 8+Dx.length):=⟨_,rfl⟩
 rw[←l] at g qd
 have B:i+(n - (i+1))=n - 1:=O
 have M:∀ty,(P4 #[117] ty #[.slice (some (Y b (off+(i+(n - (i+1))) * 8))) (n - (i+(n - (i+1)))) (cap - (i+(n - (i+1))))]).run prog d=.ok (.tuple #[]) (d.setCells b (off+(n - 1) * 8) [I 0,I 0,RP ⟨#[]⟩,I 0,RO none 0 0,RO none 0 0,I 0,I 0]):=fun ty=>by
  rw[B,show n - (n - 1)=1 by omega]
  exact Xl d _ 83 ty (.agg #[I 0,I 0,RP ⟨#[]⟩,I 0,RO none 0 0,RO none 0 0,I 0,I 0]) [I 0,I 0,RP ⟨#[]⟩,I 0,RO none 0 0,RO none 0 0,I 0,I 0] underlying117 (fun W=>by first|rfl|kernel_rfl) rfl xt b (off+(n - 1) * 8) _ (fun j hj=>by
   have P:j < 8:=hj
   rw[g.cell]
   rw[List.getElem?_toArray,Ot O]
   rfl) (fun j hj=>g.frozen _)
 have m:Sl (d.setCells b (off+(n - 1) * 8) [I 0,I 0,RP ⟨#[]⟩,I 0,RO none 0 0,RO none 0 0,I 0,I 0]) 83 8 (RO (some (Y b off)) (i+(n - (i+1))) cap) (some b) (n - 1) (xs.take (i * 8)++Dx):=by
  have D:=xL b 83 [I 0,I 0,RP ⟨#[]⟩,I 0,RO none 0 0,RO none 0 0,I 0,I 0] (off+(n - 1) * 8) d f.toArray g zT
  rw[B]
  refine⟨pF,.inr ⟨b,off,cap,_,rfl,rfl,D,O,hcm,?_,?_⟩⟩
  ·exact oV
  ·have bq:(f.take (off+(n - 1) * 8)).length=off+(n - 1) * 8:=by
    rw[OU,qd]
    omega
   show (List.drop off (f.take (off+(n - 1) * 8)++[I 0,I 0,RP ⟨#[]⟩,I 0,RO none 0 0,RO none 0 0,I 0,I 0]++_)).take ((n - 1) * 8)=xs.take (i * 8)++Dx
   rw[O4,List.drop_append_of_le_length O,List.take_append_of_le_length aT,List.drop_take,Nat.add_sub_cancel_left,List.take_take,Nat.min_self,l]
   have R:(cur.toList.take (off+i * 8)).length=off+i * 8:=by
    rw[OU,PL]
    omega
   exact IM
 obtain⟨J,K,L,y4⟩:=xM b [I 0,I 0,RP ⟨#[]⟩,I 0,RO none 0 0,RO none 0 0,I 0,I 0] (off+(n - 1) * 8) d
 have q:NH [b] w (d.setCells b (off+(n - 1) * 8) [I 0,I 0,RP ⟨#[]⟩,I 0,RO none 0 0,RO none 0 0,I 0,I 0]):=⟨J.trans s,K.trans x,L.trans y,pG,fun j hj hjn=>(xY b _ _ d j (by simpa using hjn)).trans (p.block j hj hjn)⟩
 have uy:=V m
 have Dy:=V q
 have Dz:=V a
 have z:=V k
 clear c a hlen s x y u4 g p qd l k J K L y4 m q B htake
 go_enter func102,ntmps102
 go_wp2_with fail
 go_region_law (first
  |(refine step_append_room rfl (.tmp 22) (.tmp 25) 117 rfl 83 X 8 underlying117 E G b off i cap X9 A (n - (i+1)) (cap - (i+1)) Dx X9 s1.o r.o s2.o O s3.o ?_;rw[←z.o])
  |fail)
 all_goals
  exact pB
theorem Kz (w:Oc)(v:Oe)(h:OC Nat)(n:Nat)(xs:Ob Oe)(hs:Sl w 73 6 v h n xs)(h1:∀u∈xs,u.oneCell'=true)(hn:n≤1099511627776)(i:Nat)(hi:i < n) :
  C 125 #[v,I i,I ((i:Int)+1)] w fun e w'=>∃v',e=RR v'∧Sl w' 73 6 v' h (n - 1) (xs.take (i * 6)++xs.drop ((i+1) * 6))∧NH h.toList w w':=by
 obtain⟨X,E,T,G,U⟩:=info_parts Try.infoBox
 have F:=hs.1
 rcases hs.2 with⟨_,_,h0⟩|⟨b,off,cap,cur,rfl,rfl,hB,hnc,hcm,hcs,htake⟩
 ·omega
 have c:∀j,j < n * 6→w.cell? (Y b (off+j))=xs[j]?:=fun j hj=>by
  exact oY
 obtain⟨Dx,a⟩:∃Dx,Dx=xs.drop ((i+1) * 6):=⟨_,rfl⟩
 have hlen:Dx.length=(n - (i+1)) * 6:=by
  rw[a,O8,F]
  omega
 have S:Ov.wrap ((i:Int)+1)=(i:Int)+1:=Og _ O
 have q1:(0:Int)≤(i:Int):=O
 have q2:(i:Int)≤(i:Int)+1:=O
 have q3:(i:Int)+1≤(n:Int):=O
 have q6:(0:Int)≤(i:Int)+1:=O
 have q4:(n:Int)≤(cap:Int):=O
 have q5:((i:Int)==(i:Int)+1)=false:=pH
 have N:i≤cap:=O
 have Q:i+1≤cap:=O
 clear hs
 obtain⟨A,hA,r⟩:∃A:Addr,(if cap=i+1 then (some ((Y b off):Addr)) else some ⟨b,off+(i+1) * 6,none⟩)=some A∧Z (∀t u,Dx[t]?=some u→w.drew.cell? (A.add t)=some u):=by
  by_cases h:cap=i+1
  ·exact Kh
  ·refine⟨(Y b (off+(i+1) * 6)),ZE,V (fun t u hu=>?_)⟩
   have H:t < (n - (i+1)) * 6:=by
    have:=(OX.1 hu).1
    rwa [hlen] at this
   rw[a,List.getElem?_drop] at hu
   rw[Addr.add_lit,show off+(i+1) * 6+t=off+((i+1) * 6+t) by omega]
   exact(c ((i+1) * 6+t) O).trans hu
 have s1:=V hlen
 have s2:Z (∀u∈Dx,u.oneCell'=true):=V (fun u hu=>by
  rw[a] at hu
  exact h1 u (Re hu))
 have s3:Z (∀t,t < Dx.length→(w.drew.cell? (Y b (off+i * 6+t))).isSome=true∧w.drew.frozen? (Y b (off+i * 6+t))=false):=V (fun t H=>by
  rw[hlen] at H
  refine⟨?_,hB.frozen _⟩
  show (w.cell? _).isSome=true
  rw[O1,c (i * 6+t) O,Ot O]
  rfl)
 obtain⟨d,k⟩:∃d,d=w.drew.setCells b (off+i * 6) Dx:=⟨_,rfl⟩
 have g:NG d b 73 (cur.toList.take (off+i * 6)++Dx++cur.toList.drop (off+i * 6+Dx.length)).toArray:=by
  rw[k]
  exact xL b 73 Dx (off+i * 6) w.drew cur (hB.heap (w':=w.drew) rfl) O
 obtain⟨s,x,y,u4⟩:=xM b Dx (off+i * 6) w.drew
 rw[←k] at s x y u4
 have p:NH [b] w d:=⟨s,x,y,Nat.le_of_eq u4.symm,fun j _ hj=>by
  rw[k]
  exact xY b Dx _ w.drew j vL⟩
 have qd:(cur.toList.take (off+i * 6)++Dx++cur.toList.drop (off+i * 6+Dx.length)).length=cur.size:=by
  exact oX
 obtain⟨f,l⟩:∃f,f=cur.toList.take (off+i * 6)++Dx++cur.toList.drop (off+i * 6+Dx.length):=⟨_,rfl⟩
 rw[←l] at g qd
 have B:i+(n - (i+1))=n - 1:=O
 have M:∀ty,(P4 #[71] ty #[.slice (some (Y b (off+(i+(n - (i+1))) * 6))) (n - (i+(n - (i+1)))) (cap - (i+(n - (i+1))))]).run prog d=.ok (.tuple #[]) (d.setCells b (off+(n - 1) * 6) [I 0,RP ⟨#[]⟩,I 0,I 0,I 0,I 0]):=fun ty=>by
  rw[B,show n - (n - 1)=1 by omega]
  exact Xl d _ 73 ty (.agg #[I 0,RP ⟨#[]⟩,I 0,I 0,I 0,I 0]) [I 0,RP ⟨#[]⟩,I 0,I 0,I 0,I 0] underlying71 (fun W=>by first|rfl|kernel_rfl) rfl xt b (off+(n - 1) * 6) _ (fun j hj=>by
   have P:j < 6:=hj
   rw[g.cell]
   rw[List.getElem?_toArray,Ot O]
   rfl) (fun j hj=>g.frozen _)
 have m:Sl (d.setCells b (off+(n - 1) * 6) [I 0,RP ⟨#[]⟩,I 0,I 0,I 0,I 0]) 73 6 (RO (some (Y b off)) (i+(n - (i+1))) cap) (some b) (n - 1) (xs.take (i * 6)++Dx):=by
  have D:=xL b 73 [I 0,RP ⟨#[]⟩,I 0,I 0,I 0,I 0] (off+(n - 1) * 6) d f.toArray g zT
  rw[B]
  refine⟨pF,.inr ⟨b,off,cap,_,rfl,rfl,D,O,hcm,?_,?_⟩⟩
  ·exact oV
  ·have bq:(f.take (off+(n - 1) * 6)).length=off+(n - 1) * 6:=by
    rw[OU,qd]
    omega
   show (List.drop off (f.take (off+(n - 1) * 6)++[I 0,RP ⟨#[]⟩,I 0,I 0,I 0,I 0]++_)).take ((n - 1) * 6)=xs.take (i * 6)++Dx
   rw[O4,List.drop_append_of_le_length O,List.take_append_of_le_length aT,List.drop_take,Nat.add_sub_cancel_left,List.take_take,Nat.min_self,l]
   have R:(cur.toList.take (off+i * 6)).length=off+i * 6:=by
    rw[OU,PL]
    omega
   exact IM
 obtain⟨J,K,L,y4⟩:=xM b [I 0,RP ⟨#[]⟩,I 0,I 0,I 0,I 0] (off+(n - 1) * 6) d
 have q:NH [b] w (d.setCells b (off+(n - 1) * 6) [I 0,RP ⟨#[]⟩,I 0,I 0,I 0,I 0]):=⟨J.trans s,K.trans x,L.trans y,pG,fun j hj hjn=>(xY b _ _ d j (by simpa using hjn)).trans (p.block j hj hjn)⟩
 have uy:=V m
 have Dy:=V q
 have Dz:=V a
 have z:=V k
 clear c a hlen s x y u4 g p qd l k J K L y4 m q B htake
 go_enter func125,ntmps125
 go_wp2_with fail
 go_region_law (first
  |(refine step_append_room rfl (.tmp 22) (.tmp 25) 71 rfl 73 X 6 underlying71 E G b off i cap X9 A (n - (i+1)) (cap - (i+1)) Dx X9 s1.o r.o s2.o O s3.o ?_;rw[←z.o])
  |fail)
 all_goals
  exact pB
end Go.Proofs.YtnofkliaofgiaaaGreatDoor
