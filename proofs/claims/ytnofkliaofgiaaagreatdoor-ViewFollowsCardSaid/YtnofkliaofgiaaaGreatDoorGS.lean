/-
  A slice of structs sorted by a whole number that no two share: what the library's SortFunc leaves; the walk of cmp.Compare at int. An email of an account whose members are turned in a block that is new: the account behind it. What the loop of the store's Place over fresh mailboxes keeps. The library's SortFunc over members, as the store's Place calls it. What the store's Place needs ahead of its l
-/
import Derived.Test.YtnofkliaofgiaaaGreatDoorGA
import Derived.Test.YtnofkliaofgiaaaGreatDoorGR
import Derived.Test.YtnofkliaofgiaaaGreatDoorGC
import Derived.Test.YtnofkliaofgiaaaGreatDoorGD
import Derived.Test.YtnofkliaofgiaaaGreatDoorProg
import Derived.Deep.RegionWith
import Derived.Shelf.SlSortCmp.WholeK
import Derived.Shelf.SlGeneric
import Derived.Shelf.Lay
import Derived.Ground.SlsfProg
import Derived.Deep.DrawnRows
import Derived.BigQuiet
set_option maxRecDepth 100000
set_option maxHeartbeats 8000000
open Go.Proofs.Tryz
open Array renaming extract_size→Rx
open Go renaming TypeId→Pa,Value→Oe,World→Oc
open Go.Ending renaming returned→RR
open Go.Lib renaming compareInt→Ra
open Go.Proofs renaming enters_of→O9
open Go.RowKit renaming Below→Od
open Go.Sort renaming ahead→Rf
open Go.Value renaming pointer→RQ,slice→RO
open Go.Value.slice renaming injEq→PH
open Go.World renaming block_lt_of_cell?→OH,cell?_alloc_lt→Ox
open List renaming append_nil→Pr,filter_sublist→PA,getElem?_eq_getElem→Ot,getElem_mem→Oj,getElem_of_mem→Pg,getElem_set_self→Ph,length_append→Oo,length_map→Ow,length_set→Pd,mem_filter→OZ,mem_map→OL,mem_singleton→OI,pairwise_iff_getElem→PF,pairwise_map→P0
open Nat renaming add_assoc→O1,mul_le_mul_right→PG,zero_le→OE
open Option.some renaming inj→O6,injEq→Pk
open _root_ renaming List→Ob,Option→OC,getElem!_pos→PD,if_neg→Om,if_pos→OG
namespace Go.Proofs.YtnofkliaofgiaaaGreatDoor
section
open Go.Shelf Go.RowKit Go.Lib Go.Sort
attribute [local go_sem ↓] Go.wp_at_zero Go.wp_at_succ
theorem qC (x y:Int)(w:Oc):C 86 #[I x,I y] w fun e w'=>e=RR (I (Ra x y))∧w=w':=by
 obtain⟨r,b⟩:∃r,Ra x y=r:=⟨_,rfl⟩
 rw[b]
 have HR:=V b
 clear b
 by_cases a:x < y
 ·have Bg:r= -1:=by rw[←HR.o];exact OG a
  exact o0
 ·by_cases c:y < x
  ·have Bg:r=1:=by rw[←HR.o];unfold Ra;rw[Om a,OG c]
   exact o0
  ·have Bg:r=0:=by rw[←HR.o];unfold Ra;rw[Om a,Om c]
   exact o0
theorem Xf {α:Type}[Inhabited α](encA:α→Ob Oe)(k:Nat)(hk:0 < k)(hl:∀a,(encA a).length=k)(l:Ob α):(flatK encA k l.toArray).toList=zU encA l:=by
 apply List.ext_getElem
 ·simp[xW hl]
 ·intro t j e
  have d:t < l.length * k:=by simpa[xW hl] using e
  have f:=get_flatK encA k l.toArray t (by simpa using d)
  rw[PD _ _ (by simpa using d)] at f
  rw[Array.getElem_toList,f]
  have hj:t / k < l.length:=(Nat.div_lt_iff_lt_mul hk).2 d
  have g:t % k < k:=Nat.mod_lt _ hk
  have c:=yv hl l (t / k) (t % k) hj g
  have h:t / k * k+t % k=t:=by
   rw[Nat.mul_comm]
   exact Nat.div_add_mod t k
  rw[h,Ot e] at c
  have i:(l.toArray[t / k]!:α)=l[t / k]:=by rw[PD _ _ vL];simp
  rw[i]
  have b:t % k < (encA l[t / k]).length:=by rw[hl];exact g
  rw[Ot b] at c
  rw[PD (encA l[t / k]) (t % k) b]
  exact(O6 c).symm
section
variable {w w':Oc} {e:Pa} {b off n cap size:Nat} {h:OC Nat} {xs:Ob Oe}
theorem iY (w:Oc)(q:Nat)(d:Array Oe)(b off:Nat)(os:Array Obj):NH [b] w (grow (putRow id (Rf w q) b off d) os):=by
 exact oO
theorem BI {cur:Array Oe}(hB:NG w b e cur)(q:Nat)(d:Array Oe)(os:Array Obj):NG (grow (putRow id (Rf w q) b off d) os) b e (putCells id off d cur):=by
 exact oQ
theorem jY (cur:Array Oe)(d:Array Oe)(h:off+d.size≤cur.size):((putCells id off d cur).toList.drop off).take d.size=d.toList:=by
 apply List.ext_getElem?
 intro k
 rw[List.getElem?_take]
 by_cases a:k < d.size
 ·rw[OG a,List.getElem?_drop]
  simp only[putCells,Array.getElem?_toList,Array.getElem?_mapIdx]
  rw[Array.getElem?_eq_getElem (show off+k < cur.size by omega),Option.map_some,OG ⟨O,O⟩,Nat.add_sub_cancel_left]
  simp[a]
 ·rw[Om a,List.getElem?_eq_none]
  simp
  omega
theorem Sl.CX (hs:Sl w e size (RO (some (Y b off)) n cap) h n xs)(q:Nat)(d:Array Oe)(hd:d.size=n * size)(os:Array Obj) :
  Sl (grow (Sort.putRow id (Rf w q) b off d) os) e size (RO (some (Y b off)) n cap) h n d.toList:=by
 refine⟨V6,?_⟩
 rcases hs.2 with⟨_,hv,_⟩|⟨b',off',cap',cur,hh,hv,hB,hnc,hcm,hcs,ht⟩
 ·cases hv
 ·simp only[PH,Pk,Addr.mk.injEq,and_true,true_and] at hv
  obtain⟨⟨rfl,rfl⟩,rfl⟩:=hv
  have a:n * size≤cap * size:=PG _ hnc
  refine .inr ⟨b,off,cap,_,hh,rfl,BI hB q d os,hnc,hcm,by simpa[putCells] using hcs,?_⟩
  rw[←hd]
  exact jY cur d O
theorem Sl.LO {d:Array Oe}(hs:Sl w e size (RO (some (Y b off)) n cap) h n d.toList):Holds id w b off d:=by
 have q:d.size=n * size:=Jr
 intro j m
 have c:0 < n:=by
  rcases Nat.eq_zero_or_pos n with h0|h0
  ·subst h0;omega
  ·exact h0
 obtain⟨o,i,f,p,g,_,_,_,a⟩:=hs.at_ c
 simp only[PH,Pk,Addr.mk.injEq,and_true,true_and] at g
 obtain⟨⟨rfl,rfl⟩,rfl⟩:=g
 obtain⟨k,l⟩:=a j O
 refine⟨?_,l⟩
 rw[k]
 simp[m]
end
def N0 {α:Type}(key:α→Int)(x y:α):Int:=Ra (key x) (key y)
theorem ltG {α:Type}(key:α→Int)(x y:α):ltOf (N0 key) x y=decide (key x < key y):=by
 unfold ltOf N0 Ra
 by_cases a:key x < key y
 ·simp[a]
 ·by_cases b:key y < key x
  ·simp[a,b]
  ·simp[a,b]
theorem swoG {α:Type}(key:α→Int):SWO (ltOf (N0 key)) where
 irrefl x:=by rw[ltG];simp
 trans x y z h1 h2:=by rw[ltG] at *;simp only[decide_eq_true_eq] at *;omega
 ntrans x y z h1 h2:=by rw[ltG] at *;simp only[decide_eq_false_iff_not] at *;omega
theorem wI {α:Type}(key:α→Int){m:Ob α}(hm:m.Pairwise fun a b=>key a < key b){a b:α}(ha:a∈m)(hb:b∈m)(h:key a=key b):a=b:=by
 obtain⟨i,c,rfl⟩:=Pg ha
 obtain⟨j,d,rfl⟩:=Pg hb
 have e:=PF.1 hm
 rcases Nat.lt_trichotomy i j with h1|h1|h1
 ·have:=e i j c d h1
  omega
 ·subst h1
  rfl
 ·have:=e j i d c h1
  omega
theorem J6 {α:Type}(key:α→Int){l m:Ob α}(hp:l.Perm m)(hl:l.Pairwise fun a b=>key a≤key b)(hm:m.Pairwise fun a b=>key a < key b):l=m:=by
 refine List.Perm.eq_of_pairwise (le:=fun a b=>key a≤key b) ?_ hl (hm.imp fun h=>Int.le_of_lt h) hp
 intro a b c d e f
 exact wI key hm (hp.mem_iff.1 c) d O
theorem DJ {α:Type}[Inhabited α](key:α→Int){l m:Ob α}{d':Array α}(hP:PermIn 0 l.toArray.size l.toArray d')(hS:SortedIn (ltOf (N0 key)) 0 l.toArray.size d')(hp:m.Perm l)(hm:m.Pairwise fun a b=>key a < key b):d'=m.toArray:=by
 obtain⟨d,_,c⟩:=hP
 have e:d'.extract 0 l.toArray.size=d':=by rw[←d];exact Rx
 rw[e,Rx] at c
 have f:d'.toList=m:=by
  refine J6 key (c.trans hp.symm) ?_ hm
  rw[PF]
  intro i j hi hj Fg
  have Fh:i < d'.size:=vq
  have wu:j < d'.size:=vL
  exact Nn
 rw[←f]
end
section
open Go.Shelf Go.RowKit
section
variable {w W W2:Oc} {g:Nat} {q:zW} {x x1:Acc}
theorem zL.fG {S:Ob Nat}{ms:Ob xd}{m1 m2:xd}{b off n cap i j:Nat}{u:Oe}(hms:ms=q.ms.set i m1)(ht:zL w W g q x1 {q with ms:=ms})(hw:zH w g q x)(hc:NH S W W2)(hS:∀k∈S,w.heap.size≤k)(hv:q.vm=RO (some (Y b off)) n cap)(hi:i < q.ms.length)(hj:j < 8)(hm2:xV m2=(xV m1).set j u)(hp:xB W2 (q.own g) m2):zL w (W2.setCell (Y b (off+i * 8+j)) u) g q {x1 with zC:=x1.zC.set i m2.p} {q with ms:=q.ms.set i m2}:=by
 subst hms
 have h:=ht.at_
 have f:∀k∈q.own g,k∉S:=fun k hk hm=>by
  have o:=hw.lt k hk
  have v:=hS k hm
  omega
 have Bc:=h.same
 have H:x1.zC.length=q.ms.length:=by
  rw[←Bc,Ow,Pd]
 have m:=h.zC.N4 hc (fun b hb=>f b (zW.Z5 (q:=q) hb))
 have F:({q with ms:=q.ms.set i m1}:zW).vm=RO (some (Y b off)) n cap:=hv
 rw[F] at m
 have E:n=x1.zC.length:=by
  obtain⟨A,c,r,_⟩:=m.form
  injection r
 subst E
 have d:q.hm=some b:=by
  obtain⟨L,K,G,P,r,_⟩:=m.at_ O
  injection r with e1
  injection e1 with e2
  injection e2 with e3
  have N:q.hm=some L:=P
  rw[N,e3]
 have t:=hw.apart
 have B:g≠b:=fun e=>t.hm (by rw[d,e])
 have l:NH [b] W2 (W2.setCell (Y b (off+i * 8+j)) u):=(NH.refl [b] W2).set (.inl zv) u
 have J:∀k∈[b],k∈q.own g∨W2.heap.size≤k:=fun k hk=>by
  simp only[OI] at hk
  subst hk
  exact .inl (zW.Z5 d)
 have z:NH (q.own g) w W2:=ht.N4.trans hc fun k hk=>.inr (hS k hk)
 have s:NH (q.own g) w (W2.setCell (Y b (off+i * 8+j)) u):=z.trans l fun k hk=>by
  simp only[OI] at hk
  subst hk
  exact .inl (zW.Z5 d)
 refine⟨⟨?_,?_,?_,?_,?_,fun a ha2=>?_⟩,s,fun k hk=>.inl hk⟩
 ·exact(h.blk.N4 hc (f g zW.ZP)).far (p:=⟨b,off+i * 8+j,none⟩) B u
 ·exact(h.log.N4 hc (f _ (zW.J4 (q:=q))) (fun b hb=>f b (zW.Yp (q:=q) hb))).N4 l (by simp only[OI];rintro e;exact t.lm (by rw[d];exact congrArg some e.symm)) (fun k hk=>by
   simp only[OI]
   rintro rfl
   exact t.em _ hk d)
 ·exact(h.zg.N4 hc (fun b hb=>f b (zW.Yo (q:=q) hb))).far (p:=⟨b,off+i * 8+j,none⟩) (fun e=>t.bm b e d) u
 ·exact E7
 ·have D:i < (q.ms.set i m1).length:=pR
  have o:=m.store (i * 8+j) u
  have v:=ub xr (q.ms.set i m1) i j D hj u m2 (by rw[Ph];exact hm2)
  rw[List.set_set] at v
  have M:(zU xV ({q with ms:=q.ms.set i m1}:zW).ms).set (i * 8+j) u=zU xV (q.ms.set i m2):=v
  rw[M] at o
  show Sl _ _ 8 q.vm q.hm (x1.zC.set i m2.p).length (zU xV (q.ms.set i m2))
  rw[hv,Pd]
  rw[←O1] at o
  exact o
 ·have y:a∈q.ms.set i m2:=ha2
  rcases List.mem_or_eq_of_mem_set y with o|o
  ·exact(hw.parts a o).step s (fun k hk=>.inl hk)
  ·subst o
   exact hp.keep l.size (fun k hk E=>l.block k hk (fun hm=>by
    simp only[OI] at hm
    subst hm
    exact E (zW.Z5 d))) (fun _ _ h=>h)
theorem zL.DZ {S:Ob Nat}{ms:Ob xd}{m1 m2:xd}{i:Nat}(hms:ms=q.ms.set i m1)(ht:zL w W g q x1 {q with ms:=ms})(hw:zH w g q x)(hc:NH S W W2)(hS:∀k∈S,w.heap.size≤k)(hi:i < q.ms.length)(hm2:xV m2=xV m1)(hp:xB W2 (q.own g) m2):zL w W2 g q {x1 with zC:=x1.zC.set i m2.p} {q with ms:=q.ms.set i m2}:=by
 subst hms
 have h:=ht.at_
 have c:∀k∈q.own g,k∉S:=fun k d hm=>by
  have e:=hw.lt k d
  have j:=hS k hm
  omega
 have Bc:=h.same
 have f:NH (q.own g) w W2:=ht.N4.trans hc fun k d=>.inr (hS k d)
 have m:zU xV (q.ms.set i m2)=zU xV (q.ms.set i m1):=by
  have e:=ub xr (q.ms.set i m1) i 0 pR O (I m1.p.id) m2 (by rw[Ph,hm2];rfl)
  rw[List.set_set] at e
  rw[←e]
  apply List.ext_getElem?
  intro k
  by_cases d:i * 8=k
  ·subst d
   have j:=yv xr (q.ms.set i m1) i 0 pR O
   rw[Nat.add_zero] at j ⊢
   have o:=xW xr (q.ms.set i m1)
   rw[Pd] at o
   rw[List.getElem?_set_self O,j,Ph]
   rfl
  ·rw[Nat.add_zero,List.getElem?_set_ne O]
 refine⟨⟨h.blk.N4 hc (c g zW.ZP),h.log.N4 hc (c _ (zW.J4 (q:=q))) (fun b hb=>c b (zW.Yp (q:=q) hb)),h.zg.N4 hc (fun b hb=>c b (zW.Yo (q:=q) hb)),?_,?_,fun a ha2=>?_⟩,f,fun k d=>.inl d⟩
 ·exact E7
 ·have n:=h.zC.N4 hc (fun b hb=>c b (zW.Z5 (q:=q) hb))
  show Sl _ _ 8 q.vm q.hm (x1.zC.set i m2.p).length (zU xV (q.ms.set i m2))
  rw[Pd,m]
  exact n
 ·have l:a∈q.ms.set i m2:=ha2
  rcases List.mem_or_eq_of_mem_set l with e|e
  ·exact(hw.parts a e).step f (fun k d=>.inl d)
  ·subst e
   exact hp
end
theorem Sl.some_ {w:Oc}{e:Pa}{size n c:Nat}{A:OC Addr}{b:Nat}{xs:Ob Oe}(hs:Sl w e size (RO A n c) (some b) n xs):∃off,A=some ⟨b,off,none⟩:=by
 rcases hs.2 with⟨h1,_⟩|⟨b',off',cap',cur,hh,hv,_⟩
 ·cases h1
 ·injection hh with hh
  injection hv with hv1 _ _
  exact⟨off',by rw[hv1,hh]⟩
def YX (p:zR)(base:Ob (Int×Int))(l:Ob Int)(bx:Ob xA):zR:={p with zr:=base++(zM l bx).2}
def U' (x:Acc)(i:Nat)(p:zR)(base:Ob (Int×Int))(l:Ob Int):Acc:={x with zg:=(zM l x.zg).1,zC:=x.zC.set i (YX p base l x.zg)}
structure Qs (w wr:Oc)(g:Nat)(q:zW)(x:Acc)(i:Nat)(m0:xd)(base:Ob (Int×Int))(l:Ob Int)(mv:Oe)(h:OC Nat):Prop where
 st:zL w wr g q (U' x i m0.p base l) {q with ms:=q.ms.set i ⟨YX m0.p base l x.zg,m0.kv,mv⟩}
 mem:Sl wr 153 2 mv h (base++(zM l x.zg).2).length (zU yC (base++(zM l x.zg).2))
 new:∀b,h=some b→w.heap.size≤b
section
variable {w wr W W2:Oc} {g:Nat} {q:zW} {x:Acc} {i:Nat} {m0:xd} {base:Ob (Int×Int)} {l:Ob Int} {mv mv':Oe} {h h':OC Nat}
theorem nC (hw:zH w g q x)(hm0:m0∈q.ms)(hc:NH (q.own g) w W2){ms:Ob (Int×Int)}{p:zR}(hk:p.keys=m0.p.keys)(hms:p.zr=ms)(hs:Sl W2 153 2 mv h ms.length (zU yC ms))(hf:∀b,h=some b→w.heap.size≤b) :
  xB W2 (q.own g) ⟨p,m0.kv,mv⟩:=by
 have a:=(hw.parts m0 hm0).step (q':=q) hc (fun k hk=>.inl hk)
 refine⟨?_,?_,a.tk,hs.ty⟩
 ·show NN W2 (q.own g) 1 m0.kv p.keys.length (p.keys.map encStr)
  rw[hk]
  exact a.keys
 ·show NN W2 (q.own g) 2 mv p.zr.length (zU yC p.zr)
  rw[hms]
  exact hs.reads _ (fun b hb hm=>by
   have c:=hw.lt b hm
   have d:=hf b hb
   omega)
theorem QT (bx:Ob xA):zM [] bx=(bx,[]):=rfl
theorem Qs.start {b off n cap:Nat}(hw:zH w g q x)(hi:i < q.ms.length)(hm0:q.ms[i]=m0)(hv:q.vm=RO (some (Y b off)) n cap)(hb:NH h.toList w W2)(hf:∀b,h=some b→w.heap.size≤b)(hs:Sl W2 153 2 mv h base.length (zU yC base))(hbel:Od w w W2):Qs w (W2.setCell (Y b (off+i * 8+5)) mv) g q x i m0 base [] mv h:=by
 have o:=hw.apart
 have c:m0∈q.ms:=hm0 ▸ Oj hi
 have d:q.hm=some b:=by
  exact MN
 have a:q.ms=q.ms.set i m0:=by rw[←hm0,List.set_getElem_self]
 have l:=(zL.refl hw).fG (m2:=⟨YX m0.p base [] x.zg,m0.kv,mv⟩) (j:=5) (u:=mv) a hw hb (fun k hk=>hf k yi) hv hi O rfl
  (nC hw c (NH.of_below hbel _) rfl (by show base++(zM [] x.zg).2=base;rw[QT];simp) hs hf)
 refine⟨?_,?_,hf⟩
 ·have f:U' x i m0.p base []={x with zC:=x.zC.set i (YX m0.p base [] x.zg)}:=rfl
  rw[f]
  exact l
 ·rw[QT,Pr]
  exact hs.far (p:=⟨b,off+i * 8+5,none⟩) (fun e=>by
   have f:=hf b e
   have m:=hw.lt b (zW.Z5 d)
   omega) mv
theorem Qs.next {b off n cap:Nat}{id:Int}(hR:Qs w wr g q x i m0 base l mv h)(hw:zH w g q x)(hi:i < q.ms.length)(hm0:q.ms[i]=m0)(hv:q.vm=RO (some (Y b off)) n cap)(ht:zL wr W g {q with ms:=q.ms.set i ⟨YX m0.p base l x.zg,m0.kv,mv⟩} {U' x i m0.p base l with zg:=JR id (zM l x.zg).1} {q with ms:=q.ms.set i ⟨YX m0.p base l x.zg,m0.kv,mv⟩})(hs2:Sl W2 153 2 mv' h' ((base++(zM l x.zg).2).length+1) (zU yC (base++(zM l x.zg).2)++[I id,I (yb (zM l x.zg).1 id)]))(hc:NH h.toList W W2)(ho:h'=h∨∃g,h'=some g∧W.heap.size≤g) :
  Qs w (W2.setCell (Y b (off+i * 8+5)) mv') g q x i m0 base (l++[id]) mv' h':=by
 have r:=ZO l id x.zg
 have m:m0∈q.ms:=hm0 ▸ Oj hi
 have d:=hR.st.trans ht
 have v:w.heap.size≤W.heap.size:=d.N4.size
 have a:∀b,h'=some b→w.heap.size≤b:=fun b hb=>by
  rcases ho with h1|⟨g2,h1,s⟩
  ·exact hR.new b X8
  ·rw[h1] at hb
   injection hb with hb
   omega
 have t:q.hm=some b:=by
  exact MN
 have f:NH (q.own g) w W2:=d.N4.trans hc fun k hk=>.inr (hR.new k yi)
 have c:base++(zM (l++[id]) x.zg).2=base++(zM l x.zg).2++[(id,yb (zM l x.zg).1 id)]:=by
  rw[r]
  simp
 have o:Sl W2 153 2 mv' h' (base++(zM (l++[id]) x.zg).2).length (zU yC (base++(zM (l++[id]) x.zg).2)):=by
  rw[c,ZL,Oo]
  exact hs2
 have h1:=d.fG (m1:=⟨YX m0.p base l x.zg,m0.kv,mv⟩) (m2:=⟨YX m0.p base (l++[id]) x.zg,m0.kv,mv'⟩) (j:=5) (u:=mv') rfl hw hc (fun k hk=>hR.new k yi) hv hi O rfl
  (nC hw m f rfl rfl o a)
 refine⟨?_,?_,a⟩
 ·have s:U' x i m0.p base (l++[id])={{U' x i m0.p base l with zg:=JR id (zM l x.zg).1} with zC:=(x.zC.set i (YX m0.p base l x.zg)).set i (YX m0.p base (l++[id]) x.zg)}:=by
   unfold U'
   rw[List.set_set,r]
  rw[s]
  exact h1
 ·exact o.far (p:=⟨b,off+i * 8+5,none⟩) (fun e=>by
   have h1:=a b e
   have s:=hw.lt b (zW.Z5 t)
   omega) mv'
theorem Qs.sorted {mems:Ob (Int×Int)}(hR:Qs w wr g q x i m0 base l mv h)(hw:zH w g q x)(hi:i < q.ms.length)(hm0:q.ms[i]=m0)(hc:NH h.toList wr W2)(hlen:mems.length=(base++(zM l x.zg).2).length)(hs:Sl W2 153 2 mv h (base++(zM l x.zg).2).length (zU yC mems)) :
  zL w W2 g q {U' x i m0.p base l with zC:=x.zC.set i {m0.p with zr:=mems}} {q with ms:=q.ms.set i ⟨{m0.p with zr:=mems},m0.kv,mv⟩}:=by
 have b:m0∈q.ms:=hm0 ▸ Oj hi
 have a:NH (q.own g) w W2:=hR.st.N4.trans hc fun k hk=>.inr (hR.new k yi)
 rw[←hlen] at hs
 have c:=hR.st.DZ (m1:=⟨YX m0.p base l x.zg,m0.kv,mv⟩) (m2:=⟨{m0.p with zr:=mems},m0.kv,mv⟩) rfl hw hc (fun k hk=>hR.new k yi) hi rfl (nC hw b a rfl rfl hs hR.new)
 have d:(U' x i m0.p base l).zC.set i {m0.p with zr:=mems}=x.zC.set i {m0.p with zr:=mems}:=by
  unfold U'
  rw[List.set_set]
 rw[←d]
 exact c
end
end
section
open Go.Shelf Go.RowKit Go.Lib Go.Sort
attribute [local go_sem ↓] Go.wp_at_zero Go.wp_at_succ
theorem jX (x y:Int×Int)(W:Oc):C 100 #[.agg #[I x.1,I x.2],.agg #[I y.1,I y.2]] W fun e w'=>e=RR (I (N0 (fun p:Int×Int=>p.1) x y))∧∃q os',w'=grow (W.drewN q) os':=by
 obtain⟨b,f⟩:=x
 obtain⟨c,g⟩:=y
 unfold N0
 simp only
 obtain⟨d,a⟩:∃r,Ra b c=r:=⟨_,rfl⟩
 have Fj:=fun W=>qC b c W
 rw[a] at Fj ⊢
 clear a
 go_enter func100,ntmps100
 exact EI
theorem eL (blk off size:Nat)(w:Oc):CmpLays prog 100 #[] yC 2 (N0 fun p:Int×Int=>p.1) blk off size w:=
 fun _ _ _ _ x y=>jX x y _
shelf_lay_g SlLaysF0.n6 Slsf 6 at Tryz 99 as Tryz.sortMem
theorem dQ {l:Ob (Int×Int)}(h:(l.map (·.1)).Nodup):(Z9 l).Perm l:=by
 obtain⟨c,d⟩:=UH h
 refine(List.perm_ext_iff_of_nodup ?_ ?_).2 d
 ·exact c.imp fun {a b} hab e=>by
   rw[e] at hab
   exact absurd hab (Int.lt_irrefl _)
 ·exact(P0.1 h).imp fun {a b} hab e=>hab (by rw[e])
theorem Qa {l:Ob (Int×Int)}(h:(l.map (·.1)).Nodup):(Z9 l).length=l.length:=(dQ h).length_eq
theorem oD (w:Oc)(A:Addr)(cap:Nat)(h:OC Nat)(l:Ob (Int×Int))(hs:Sl w 153 2 (RO (some A) l.length cap) h l.length (zU yC l))(hd:(l.map (·.1)).Nodup)(hn:l.length≤1099511627776) :
  C 99 #[RO (some A) l.length cap,.func (.func 100) #[] #[]] w fun e w'=>e=RR (.tuple #[])∧Sl w' 153 2 (RO (some A) l.length cap) h l.length (zU yC (Z9 l))∧NH h.toList w w':=by
 rcases hs.2 with⟨_,hv,_⟩|⟨b,off,cap',cur,rfl,hv,hB,hnc,hcm,hcs,ht⟩
 ·cases hv
 ·injection hv with hv1 _ hv3
  injection hv1 with hv1
  subst hv1 hv3
  have c:=hs
  rw[←Xf yC 2 O yG l] at c
  have j:∀args w,(callFunc 100 args).run prog w=.ok (.enter 100 args) w:=O9 func100 zQ rfl
  have g:=AnyQ.slices_SortFunc Tryz.sortMem 2 Tryz.isAgg153 Tryz.sizeOf153 yC yG U0 (N0 fun p:Int×Int=>p.1) (swoG _) 100 #[] b off cap l.toArray w j (eL b off _ w) c.LO hB.lt zT
  have a:l.toArray.size=l.length:=zv
  rw[a] at g
  refine g.mono ?_
  rintro e w' ⟨rfl,i,q,n,k,m,rfl⟩
  have d:i=(Z9 l).toArray:=DJ (fun p:Int×Int=>p.1) (by rw[a];exact k) (by rw[a];exact m) (dQ hd) (UH hd).1
  subst d
  refine⟨rfl,?_,iY _ _ _ _ _ _⟩
  have f:=hs.CX q (flatK yC 2 (Z9 l).toArray) (by simp[Qa hd]) n
  rw[Xf yC 2 O yG] at f
  exact f
end
section
open Go.Shelf Go.RowKit
attribute [local go_sem ↓] Go.wp_at_zero Go.wp_at_succ
theorem mU (x:Int×Int)(B:Nat)(v:Oe)(l:Ob Int)(W:Oc)(hB:W.cell? (Y B 0)=some v)(hr:NN W [] 1 v l.length (l.map yJ))(hn:l.length≤1099511627776) :
  C 98 (#[.agg (yC x).toArray]++#[RQ (some (Y B 0))]) W fun e w'=>e=RR (.bool (decide (x.1∈l)))∧Od W W w':=by
 obtain⟨a,f⟩:=x
 have d:=fun W2 (hb:Od W W W2)=>Xa v [] l a W2 (hr.below hb) hn
 have b:=OH _ _ hB
 have g:=(Ox W (.cells #[I a,I f] 153) (Y B 0) b).trans hB
 show C 98 #[.agg #[I a,I f],Y B 0] W _
 have c:=V d
 clear hr d
 simp only
 generalize h:decide (a∈l)=r at c ⊢
 clear h
 go_enter func98,ntmps98
 go_wp2_with (first
  |(go_at_call 94;refine(c.o _ (zt _ _)).mono ?_;rintro e i ⟨rfl,rfl⟩)
  |fail)
 go_ret
 exact⟨rfl,zt _ _⟩
theorem LN {w0 w4:Oc}{v4 vk:Oe}{h4 hk:OC Nat}{l k:Ob Int}{B:Nat}(fn:Nat)(hne:l≠[])(eg:∀args w,(callFunc fn args).run prog w=.ok (.enter fn args) w)(hpred:∀(x:Int) (W:Oc),W.cell? (Y B 0)=some vk→NN W [] 1 vk k.length (k.map yJ)→k.length≤1099511627776→C fn (#[I x]++#[RQ (some (Y B 0))]) W fun e w'=>e=RR (.bool (decide (x∈k)))∧Od W W w')(hcell:w0.cell? (Y B 0)=some vk)(hsk:Sl w0 3 1 vk hk k.length (k.map yJ))(hkn:k.length≤1099511627776)(hs4:Sl w4 3 1 v4 h4 l.length (l.map yJ))(hln:l.length≤1099511627776)(hb4:Od w0 w0 w4)(ho4:∀b,h4=some b→w0.heap.size≤b) :
  C 91 #[v4,.func (.func fn) #[] #[Y B 0]] w4 fun e w'=>∃(A5:Addr) (n5 c5:Nat) (h5:OC Nat),e=RR (RO (some A5) n5 c5)∧n5=(l.filter fun x=>!decide (x∈k)).length∧Sl w' 3 1 (RO (some A5) n5 c5) h5 n5 ((l.filter fun x=>!decide (x∈k)).map yJ)∧(∀b,h5=some b→w0.heap.size≤b)∧Od w0 w0 w':=by
 have Gd:=OH _ _ hcell
 have a:0 < l.length:=List.length_pos_iff.2 hne
 obtain⟨i,m,j,d,g,_⟩:=hs4.at_ a
 refine(qD v4 h4 l (fun x=>decide (x∈k)) fn _ eg w4 hs4 hln (fun W hc x _=>?_)).mono ?_
 ·exact MX
 ·rintro e w' ⟨n,rfl,f,hc⟩
  obtain⟨A5,c5,rfl,_,_⟩:=f.form
  have c:=f
  rw[d] at c
  obtain⟨h,rfl⟩:=c.some_
  exact⟨_,_,c5,h4,rfl,rfl,f,ho4,hb4.trans (hc.below hb4.size (fun b hb=>ho4 b xQ))⟩
theorem nJ {x:Acc}(hf:Fit x){m:zR}(hm:m∈x.zC){bs:Ob Int}{fr lf:Ob Int}(hfr:((rise bs).filter fun b=>!decide (b∈x9 m.zr))=fr)(hlf:((x9 m.zr).filter fun b=>!decide (b∈rise bs))=lf) :
  (((m.zr.filter fun p=>!decide (p.1∈lf))++(zM fr x.zg).2).map (·.1)).Nodup:=by
 have c:=(hf.mail m hm).mem
 have d:=XY (bs:=x.zg) (zg:=bs) c
 have a:fr.Nodup:=by
  rw[←hfr]
  exact(PA (l:=rise bs)).nodup (xZ bs)
 rw[vT fr x.zg hf.idsB a]
 subst hfr hlf
 exact d
theorem nK {x:Acc}{m:zR}{bs:Ob Int}(hne:bs≠[]){fr lf:Ob Int}(hfr:((rise bs).filter fun b=>!decide (b∈x9 m.zr))=fr)(hlf:((x9 m.zr).filter fun b=>!decide (b∈rise bs))=lf) :
  0 < ((m.zr.filter fun p=>!decide (p.1∈lf))++(zM fr x.zg).2).length:=by
 obtain⟨i,f⟩:∃i,i∈bs:=by
  cases bs with
  |nil=>exact absurd rfl hne
  |cons i r=>exact⟨i,zv⟩
 have d:=(uU bs i).2 f
 rw[Oo,ZN]
 by_cases e:i∈x9 m.zr
 ·obtain⟨p,g,c⟩:=OL.1 e
  have a:p∈m.zr.filter fun p=>!decide (p.1∈lf):=OZ.2 ⟨g,by
   rw[←hlf]
   have:p.1=i:=c
   simp[this,d]⟩
  have:=List.length_pos_of_mem a
  omega
 ·have a:i∈fr:=by
   rw[←hfr]
   exact OZ.2 ⟨d,by simpa using e⟩
  have:=List.length_pos_of_mem a
  omega
theorem YW {W:Oc}{g:Nat}{q:zW}{x':Acc}{m1:xd}{b off n cap i:Nat}(h:zH W g {q with ms:=q.ms.set i m1} x')(hv:q.vm=RO (some (Y b off)) n cap)(hi:i < q.ms.length) :
  b < W.heap.size∧∀j,j < 8→W.cell? (Y b (off+i * 8+j))=(xV m1)[j]?∧W.frozen? (Y b (off+i * 8+j))=false:=by
 have s:i < x'.zC.length:=by
  have t:=h.XC
  have p:(q.ms.set i m1).length=q.ms.length:=Pd
  have u:({q with ms:=q.ms.set i m1}:zW).ms.length=q.ms.length:=p
  omega
 have f:i < ({q with ms:=q.ms.set i m1}:zW).ms.length:=by
  show i < (q.ms.set i m1).length
  rw[Pd]
  exact hi
 obtain⟨o,d,a,l,_,_,_,k,e⟩:=h.ud i s f
 have c:q.vm=RO (some (Y o d)) x'.zC.length a:=l
 rw[hv] at c
 injection c with e1 _ _
 injection e1 with e1
 injection e1 with e1 e2
 subst e1 e2
 refine⟨k,fun j hj=>?_⟩
 have m:=e j hj
 have r:({q with ms:=q.ms.set i m1}:zW).ms[i]=m1:=Ph _
 rw[r] at m
 exact m
end
end Go.Proofs.YtnofkliaofgiaaaGreatDoor
