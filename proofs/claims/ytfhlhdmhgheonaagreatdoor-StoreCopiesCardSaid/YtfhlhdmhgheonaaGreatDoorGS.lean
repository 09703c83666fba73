/-
  A slice of structs sorted by a whole number that no two share: what the library's SortFunc leaves; the walk of cmp.Compare at int. An email of an account whose members are turned in a block that is new: the account behind it. What the loop of the store's Place over fresh mailboxes keeps. The library's SortFunc over members, as the store's Place calls it. What the store's Place needs ahead of its l
-/
import Derived.Test.YtfhlhdmhgheonaaGreatDoorGA
import Derived.Test.YtfhlhdmhgheonaaGreatDoorGR
import Derived.Test.YtfhlhdmhgheonaaGreatDoorGC
import Derived.Test.YtfhlhdmhgheonaaGreatDoorGD
import Derived.Test.YtfhlhdmhgheonaaGreatDoorProg
import Derived.Deep.RegionWith
import Derived.Shelf.SlSortCmp.WholeK
import Derived.Shelf.SlGeneric
import Derived.Shelf.Lay
import Derived.Ground.SlsfProg
import Derived.Deep.DrawnRows
import Derived.BigQuiet
set_option maxRecDepth 100000
set_option maxHeartbeats 8000000
namespace Go.Proofs.YtfhlhdmhgheonaaGreatDoor
open Go.Shelf Go.RowKit Go.Lib Go.Sort
attribute [local go_sem ↓] Go.wp_at_zero Go.wp_at_succ
theorem cmpG_any (x y:Int)(w:World):Calls Tryz.prog 144 #[.int .i64 x,.int .i64 y] w fun e w'=>e=.returned (.int .i64 (Lib.compareInt x y))∧w=w':=by
 obtain⟨r,d⟩:∃r,Lib.compareInt x y=r:=⟨_,rfl⟩
 rw[d]
 have b:=zdG d
 clear d
 by_cases c:x < y
 ·have a:r= -1:=by rw[←b.out];exact if_pos c
  subst a
  clear b
  go_enter Tryz.func144,Tryz.ntmps144
  go_wp2
  go_ret
  exact⟨rfl,rfl⟩
 ·by_cases f:y < x
  ·have a:r=1:=by rw[←b.out];unfold Lib.compareInt;rw[if_neg c,if_pos f]
   subst a
   clear b
   go_enter Tryz.func144,Tryz.ntmps144
   go_wp2
   go_ret
   exact⟨rfl,rfl⟩
  ·have a:r=0:=by rw[←b.out];unfold Lib.compareInt;rw[if_neg c,if_neg f]
   subst a
   clear b
   go_enter Tryz.func144,Tryz.ntmps144
   go_wp2
   go_ret
   exact⟨rfl,rfl⟩
theorem Vd {α:Type}[Inhabited α](encA:α→List Value)(k:Nat)(hk:0 < k)(hl:∀a,(encA a).length=k)(l:List α):(flatK encA k l.toArray).toList=zk encA l:=by
 apply List.ext_getElem
 ·simp[yX hl]
 ·intro t m h
  have c:t < l.length * k:=by simpa[yX hl] using h
  have e:=get_flatK encA k l.toArray t (by simpa using c)
  rw[getElem!_pos _ _ (by simpa using c)] at e
  rw[Array.getElem_toList,e]
  have f:t / k < l.length:=(Nat.div_lt_iff_lt_mul hk).2 c
  have g:t % k < k:=Nat.mod_lt _ hk
  have d:=zy hl l (t / k) (t % k) f g
  have i:t / k * k+t % k=t:=by
   rw[Nat.mul_comm]
   exact Nat.div_add_mod t k
  rw[i,List.getElem?_eq_getElem h] at d
  have j:(l.toArray[t / k]!:α)=l[t / k]:=by rw[getElem!_pos _ _ (by simpa using f)];simp
  rw[j]
  have b:t % k < (encA l[t / k]).length:=by rw[hl];exact g
  rw[List.getElem?_eq_getElem b] at d
  rw[getElem!_pos (encA l[t / k]) (t % k) b]
  exact(Option.some.inj d).symm
section
variable {w w':World} {e:TypeId} {b off n cap size:Nat} {h:Option Nat} {xs:List Value}
theorem zci (w:World)(q:Nat)(d:Array Value)(b off:Nat)(os:Array Obj):Chg [b] w (grow (putRow id (Sort.ahead w q) b off d) os):=by
 refine⟨rfl,rfl,rfl,by simp,fun k hk hne=>?_⟩
 rw[heap_grow_old _ _ (by simpa using hk)]
 have:b≠k:=fun e=>hne (by simp[e])
 simp[putRow,mapBlock,Sort.ahead,Array.getElem?_modify,this]
theorem zc8 {cur:Array Value}(hB:Blk w b e cur)(q:Nat)(d:Array Value)(os:Array Obj):Blk (grow (putRow id (Sort.ahead w q) b off d) os) b e (putCells id off d cur):=by
 have a:=hB.lt
 unfold Blk at hB ⊢
 rw[heap_grow_old _ _ (by simpa using a)]
 simp[putRow,mapBlock,Sort.ahead,Array.getElem?_modify,hB]
 rfl
theorem JO (cur:Array Value)(d:Array Value)(h:off+d.size≤cur.size):((putCells id off d cur).toList.drop off).take d.size=d.toList:=by
 apply List.ext_getElem?
 intro k
 rw[List.getElem?_take]
 by_cases a:k < d.size
 ·rw[if_pos a,List.getElem?_drop]
  simp only[putCells,Array.getElem?_toList,Array.getElem?_mapIdx]
  rw[Array.getElem?_eq_getElem (show off+k < cur.size by omega),Option.map_some,if_pos ⟨by omega,by omega⟩,Nat.add_sub_cancel_left]
  simp[a]
 ·rw[if_neg a,List.getElem?_eq_none]
  simp
  omega
theorem Sl.putRowG (hs:Sl w e size (.slice (some ⟨b,off,none⟩) n cap) h n xs)(q:Nat)(d:Array Value)(hd:d.size=n * size)(os:Array Obj) :
  Sl (grow (Sort.putRow id (Sort.ahead w q) b off d) os) e size (.slice (some ⟨b,off,none⟩) n cap) h n d.toList:=by
 refine⟨by simpa using hd,?_⟩
 rcases hs.2 with⟨_,hv,_⟩|⟨b',off',cap',cur,hh,hv,hB,hnc,hcm,hcs,ht⟩
 ·cases hv
 ·simp only[Value.slice.injEq,Option.some.injEq,Addr.mk.injEq,and_true,true_and] at hv
  obtain⟨⟨rfl,rfl⟩,rfl⟩:=hv
  have a:n * size≤cap * size:=Nat.mul_le_mul_right _ hnc
  refine .inr ⟨b,off,cap,_,hh,rfl,zc8 hB q d os,hnc,hcm,by simpa[putCells] using hcs,?_⟩
  rw[←hd]
  exact JO cur d (by omega)
theorem Sl.holdsG {d:Array Value}(hs:Sl w e size (.slice (some ⟨b,off,none⟩) n cap) h n d.toList):Holds id w b off d:=by
 have o:d.size=n * size:=by have:=hs.1;simpa using this
 intro j k
 have a:0 < n:=by
  rcases Nat.eq_zero_or_pos n with h0|h0
  ·subst h0;omega
  ·exact h0
 obtain⟨p,f,g,q,i,_,_,_,c⟩:=hs.at_ a
 simp only[Value.slice.injEq,Option.some.injEq,Addr.mk.injEq,and_true,true_and] at i
 obtain⟨⟨rfl,rfl⟩,rfl⟩:=i
 obtain⟨l,m⟩:=c j (by omega)
 refine⟨?_,m⟩
 rw[l]
 simp[k]
end
def cfG {α:Type}(key:α→Int)(x y:α):Int:=Lib.compareInt (key x) (key y)
theorem ltG {α:Type}(key:α→Int)(x y:α):ltOf (cfG key) x y=decide (key x < key y):=by
 unfold ltOf cfG Lib.compareInt
 by_cases a:key x < key y
 ·simp[a]
 ·by_cases b:key y < key x
  ·simp[a,b]
  ·simp[a,b]
theorem swoG {α:Type}(key:α→Int):SWO (ltOf (cfG key)) where
 irrefl x:=by rw[ltG];simp
 trans x y z h1 h2:=by rw[ltG] at *;simp only[decide_eq_true_eq] at *;omega
 ntrans x y z h1 h2:=by rw[ltG] at *;simp only[decide_eq_false_iff_not] at *;omega
theorem zb4 {α:Type}(key:α→Int){m:List α}(hm:m.Pairwise fun a b=>key a < key b){a b:α}(ha:a∈m)(hb:b∈m)(h:key a=key b):a=b:=by
 obtain⟨i,d,rfl⟩:=List.getElem_of_mem ha
 obtain⟨j,e,rfl⟩:=List.getElem_of_mem hb
 have c:=List.pairwise_iff_getElem.1 hm
 rcases Nat.lt_trichotomy i j with h1|h1|h1
 ·have:=c i j d e h1
  omega
 ·subst h1
  rfl
 ·have:=c j i e d h1
  omega
theorem JE {α:Type}(key:α→Int){l m:List α}(hp:l.Perm m)(hl:l.Pairwise fun a b=>key a≤key b)(hm:m.Pairwise fun a b=>key a < key b):l=m:=by
 refine List.Perm.eq_of_pairwise (le:=fun a b=>key a≤key b) ?_ hl (hm.imp fun h=>Int.le_of_lt h) hp
 intro a b c d e f
 exact zb4 key hm (hp.mem_iff.1 c) d (by omega)
theorem zc4 {α:Type}[Inhabited α](key:α→Int){l m:List α}{d':Array α}(hP:PermIn 0 l.toArray.size l.toArray d')(hS:SortedIn (ltOf (cfG key)) 0 l.toArray.size d')(hp:m.Perm l)(hm:m.Pairwise fun a b=>key a < key b):d'=m.toArray:=by
 obtain⟨f,_,c⟩:=hP
 have h:d'.extract 0 l.toArray.size=d':=by rw[←f];exact Array.extract_size
 rw[h,Array.extract_size] at c
 have k:d'.toList=m:=by
  refine JE key (c.trans hp.symm) ?_ hm
  rw[List.pairwise_iff_getElem]
  intro i j n o g
  have d:i < d'.size:=by simpa using n
  have e:j < d'.size:=by simpa using o
  have:=hS i j (Nat.zero_le _) g (by omega)
  rw[getElem!_pos d' j e,getElem!_pos d' i d,ltG] at this
  simp only[decide_eq_false_iff_not] at this
  simp only[Array.getElem_toList]
  omega
 rw[←k]
end Go.Proofs.YtfhlhdmhgheonaaGreatDoor
namespace Go.Proofs.YtfhlhdmhgheonaaGreatDoor
open Go.Shelf Go.RowKit
section
variable {w W W2:World} {g:Nat} {q:zl} {x x1:Acc}
theorem Turned.Jj {S:List Nat}{ms:List zR}{m1 m2:zR}{b off n cap i j:Nat}{u:Value}(hms:ms=q.ms.set i m1)(ht:Turned w W g q x1 {q with ms:=ms})(hw:zh w g q x)(hc:Chg S W W2)(hS:∀k∈S,w.heap.size≤k)(hv:q.vm=.slice (some ⟨b,off,none⟩) n cap)(hi:i < q.ms.length)(hj:j < 8)(hm2:xP m2=(xP m1).set j u)(hp:yD W2 (q.own g) m2):Turned w (W2.setCell ⟨b,off+i * 8+j,none⟩ u) g q {x1 with mails:=x1.mails.set i m2.p} {q with ms:=q.ms.set i m2}:=by
 subst hms
 have h:=ht.at_
 have f:∀k∈q.own g,k∉S:=fun k hk hm=>by
  have r:=hw.lt k hk
  have y:=hS k hm
  omega
 have l:=h.same
 have G:x1.mails.length=q.ms.length:=by
  rw[←l,List.length_map,List.length_set]
 have m:=h.mails.chg hc (fun b hb=>f b (zl.vR (q:=q) hb))
 have z:({q with ms:=q.ms.set i m1}:zl).vm=.slice (some ⟨b,off,none⟩) n cap:=hv
 rw[z] at m
 have B:n=x1.mails.length:=by
  obtain⟨A,c,s,_⟩:=m.form
  injection s
 subst B
 have d:q.hm=some b:=by
  obtain⟨M,I,J,N,s,_⟩:=m.at_ (by omega)
  injection s with e1
  injection e1 with e2
  injection e2 with e3
  have K:q.hm=some M:=N
  rw[K,e3]
 have v:=hw.apart
 have C:g≠b:=fun e=>v.hm (by rw[d,e])
 have o:Chg [b] W2 (W2.setCell ⟨b,off+i * 8+j,none⟩ u):=(Chg.refl [b] W2).set (.inl (by simp)) u
 have H:∀k∈[b],k∈q.own g∨W2.heap.size≤k:=fun k hk=>by
  simp only[List.mem_singleton] at hk
  subst hk
  exact .inl (zl.vR d)
 have D:Chg (q.own g) w W2:=ht.chg.trans hc fun k hk=>.inr (hS k hk)
 have t:Chg (q.own g) w (W2.setCell ⟨b,off+i * 8+j,none⟩ u):=D.trans o fun k hk=>by
  simp only[List.mem_singleton] at hk
  subst hk
  exact .inl (zl.vR d)
 refine⟨⟨?_,?_,?_,?_,?_,fun a ha2=>?_⟩,t,fun k hk=>.inl hk⟩
 ·exact(h.blk.chg hc (f g zl.ZP)).far (p:=⟨b,off+i * 8+j,none⟩) C u
 ·exact(h.log.chg hc (f _ (zl.Yg (q:=q))) (fun b hb=>f b (zl.Yp (q:=q) hb))).chg o (by simp only[List.mem_singleton];rintro e;exact v.lm (by rw[d];exact congrArg some e.symm)) (fun k hk=>by
   simp only[List.mem_singleton]
   rintro rfl
   exact v.em _ hk d)
 ·exact(h.boxes.chg hc (fun b hb=>f b (zl.vW (q:=q) hb))).far (p:=⟨b,off+i * 8+j,none⟩) (fun e=>v.bm b e d) u
 ·show (q.ms.set i m2).map (·.p)=x1.mails.set i m2.p
  rw[←l,List.map_set]
  show _=((q.ms.set i m1).map (·.p)).set i m2.p
  rw[List.map_set,List.set_set]
 ·have E:i < (q.ms.set i m1).length:=by rw[List.length_set];exact hi
  have r:=m.store (i * 8+j) u
  have y:=vo z8 (q.ms.set i m1) i j E hj u m2 (by rw[List.getElem_set_self];exact hm2)
  rw[List.set_set] at y
  have L:(zk xP ({q with ms:=q.ms.set i m1}:zl).ms).set (i * 8+j) u=zk xP (q.ms.set i m2):=y
  rw[L] at r
  show Sl _ _ 8 q.vm q.hm (x1.mails.set i m2.p).length (zk xP (q.ms.set i m2))
  rw[hv,List.length_set]
  rw[←Nat.add_assoc] at r
  exact r
 ·have F:a∈q.ms.set i m2:=ha2
  rcases List.mem_or_eq_of_mem_set F with r|r
  ·exact(hw.parts a r).step t (fun k hk=>.inl hk)
  ·subst r
   exact hp.keep o.size (fun k hk B=>o.block k hk (fun hm=>by
    simp only[List.mem_singleton] at hm
    subst hm
    exact B (zl.vR d))) (fun _ _ h=>h)
theorem Turned.zcq {S:List Nat}{ms:List zR}{m1 m2:zR}{i:Nat}(hms:ms=q.ms.set i m1)(ht:Turned w W g q x1 {q with ms:=ms})(hw:zh w g q x)(hc:Chg S W W2)(hS:∀k∈S,w.heap.size≤k)(hi:i < q.ms.length)(hm2:xP m2=xP m1)(hp:yD W2 (q.own g) m2):Turned w W2 g q {x1 with mails:=x1.mails.set i m2.p} {q with ms:=q.ms.set i m2}:=by
 subst hms
 have h:=ht.at_
 have c:∀k∈q.own g,k∉S:=fun k d hm=>by
  have e:=hw.lt k d
  have l:=hS k hm
  omega
 have f:=h.same
 have j:Chg (q.own g) w W2:=ht.chg.trans hc fun k d=>.inr (hS k d)
 have m:zk xP (q.ms.set i m2)=zk xP (q.ms.set i m1):=by
  have e:=vo z8 (q.ms.set i m1) i 0 (by rw[List.length_set];exact hi) (by omega) (.int .i64 m1.p.id) m2 (by rw[List.getElem_set_self,hm2];rfl)
  rw[List.set_set] at e
  rw[←e]
  apply List.ext_getElem?
  intro k
  by_cases d:i * 8=k
  ·subst d
   have l:=zy z8 (q.ms.set i m1) i 0 (by rw[List.length_set];exact hi) (by omega)
   rw[Nat.add_zero] at l ⊢
   have r:=yX z8 (q.ms.set i m1)
   rw[List.length_set] at r
   rw[List.getElem?_set_self (by omega),l,List.getElem_set_self]
   rfl
  ·rw[Nat.add_zero,List.getElem?_set_ne (by omega)]
 refine⟨⟨h.blk.chg hc (c g zl.ZP),h.log.chg hc (c _ (zl.Yg (q:=q))) (fun b hb=>c b (zl.Yp (q:=q) hb)),h.boxes.chg hc (fun b hb=>c b (zl.vW (q:=q) hb)),?_,?_,fun a ha2=>?_⟩,j,fun k d=>.inl d⟩
 ·show (q.ms.set i m2).map (·.p)=x1.mails.set i m2.p
  rw[←f,List.map_set]
  show _=((q.ms.set i m1).map (·.p)).set i m2.p
  rw[List.map_set,List.set_set]
 ·have n:=h.mails.chg hc (fun b hb=>c b (zl.vR (q:=q) hb))
  show Sl _ _ 8 q.vm q.hm (x1.mails.set i m2.p).length (zk xP (q.ms.set i m2))
  rw[List.length_set,m]
  exact n
 ·have o:a∈q.ms.set i m2:=ha2
  rcases List.mem_or_eq_of_mem_set o with e|e
  ·exact(hw.parts a e).step j (fun k d=>.inl d)
  ·subst e
   exact hp
end
theorem Sl.some_ {w:World}{e:TypeId}{size n c:Nat}{A:Option Addr}{b:Nat}{xs:List Value}(hs:Sl w e size (.slice A n c) (some b) n xs):∃off,A=some ⟨b,off,none⟩:=by
 rcases hs.2 with⟨h1,_⟩|⟨b',off',cap',cur,hh,hv,_⟩
 ·cases h1
 ·injection hh with hh
  injection hv with hv1 _ _
  exact⟨off',by rw[hv1,hh]⟩
def ZF (p:zX)(base:List (Int×Int))(l:List Int)(bx:List yg):zX:={p with members:=base++(numbers l bx).2}
def Xt (x:Acc)(i:Nat)(p:zX)(base:List (Int×Int))(l:List Int):Acc:={x with boxes:=(numbers l x.boxes).1,mails:=x.mails.set i (ZF p base l x.boxes)}
structure X7 (w wr:World)(g:Nat)(q:zl)(x:Acc)(i:Nat)(m0:zR)(base:List (Int×Int))(l:List Int)(mv:Value)(h:Option Nat):Prop where
 st:Turned w wr g q (Xt x i m0.p base l) {q with ms:=q.ms.set i ⟨ZF m0.p base l x.boxes,m0.kv,mv⟩}
 mem:Sl wr 56 2 mv h (base++(numbers l x.boxes).2).length (zk zA (base++(numbers l x.boxes).2))
 new:∀b,h=some b→w.heap.size≤b
section
variable {w wr W W2:World} {g:Nat} {q:zl} {x:Acc} {i:Nat} {m0:zR} {base:List (Int×Int)} {l:List Int} {mv mv':Value} {h h':Option Nat}
theorem zav (hw:zh w g q x)(hm0:m0∈q.ms)(hc:Chg (q.own g) w W2){ms:List (Int×Int)}{p:zX}(hk:p.keys=m0.p.keys)(hms:p.members=ms)(hs:Sl W2 56 2 mv h ms.length (zk zA ms))(hf:∀b,h=some b→w.heap.size≤b) :
  yD W2 (q.own g) ⟨p,m0.kv,mv⟩:=by
 have a:=(hw.parts m0 hm0).step (q':=q) hc (fun k hk=>.inl hk)
 refine⟨?_,?_,a.tk,hs.ty⟩
 ·show RdS W2 (q.own g) 1 m0.kv p.keys.length (p.keys.map encStr)
  rw[hk]
  exact a.keys
 ·show RdS W2 (q.own g) 2 mv p.members.length (zk zA p.members)
  rw[hms]
  exact hs.reads _ (fun b hb hm=>by
   have c:=hw.lt b hm
   have d:=hf b hb
   omega)
theorem Vg (bx:List yg):numbers [] bx=(bx,[]):=rfl
theorem X7.start {b off n cap:Nat}(hw:zh w g q x)(hi:i < q.ms.length)(hm0:q.ms[i]=m0)(hv:q.vm=.slice (some ⟨b,off,none⟩) n cap)(hb:Chg h.toList w W2)(hf:∀b,h=some b→w.heap.size≤b)(hs:Sl W2 56 2 mv h base.length (zk zA base))(hbel:Below w.heap.size w W2):X7 w (W2.setCell ⟨b,off+i * 8+5,none⟩ mv) g q x i m0 base [] mv h:=by
 have y:=hw.apart
 have l:m0∈q.ms:=hm0 ▸ List.getElem_mem hi
 have m:q.hm=some b:=by
  have a:=hw.mails
  rw[hv] at a
  have z:n=x.mails.length:=by
   obtain⟨A,c,f,_⟩:=a.form
   injection f
  have B:=hw.Za
  obtain⟨D,r,s,v,f,_⟩:=a.at_ (by omega)
  injection f with e1
  injection e1 with e2
  injection e2 with e3
  rw[v,e3]
 have d:q.ms=q.ms.set i m0:=by rw[←hm0,List.set_getElem_self]
 have t:=(Turned.refl hw).Jj (m2:=⟨ZF m0.p base [] x.boxes,m0.kv,mv⟩) (j:=5) (u:=mv) d hw hb (fun k hk=>hf k (by simpa using hk)) hv hi (by omega) rfl
  (zav hw l (Chg.of_below hbel _) rfl (by show base++(numbers [] x.boxes).2=base;rw[Vg];simp) hs hf)
 refine⟨?_,?_,hf⟩
 ·have o:Xt x i m0.p base []={x with mails:=x.mails.set i (ZF m0.p base [] x.boxes)}:=rfl
  rw[o]
  exact t
 ·rw[Vg,List.append_nil]
  exact hs.far (p:=⟨b,off+i * 8+5,none⟩) (fun e=>by
   have o:=hf b e
   have C:=hw.lt b (zl.vR m)
   omega) mv
theorem X7.next {b off n cap:Nat}{id:Int}(hR:X7 w wr g q x i m0 base l mv h)(hw:zh w g q x)(hi:i < q.ms.length)(hm0:q.ms[i]=m0)(hv:q.vm=.slice (some ⟨b,off,none⟩) n cap)(ht:Turned wr W g {q with ms:=q.ms.set i ⟨ZF m0.p base l x.boxes,m0.kv,mv⟩} {Xt x i m0.p base l with boxes:=bump id (numbers l x.boxes).1} {q with ms:=q.ms.set i ⟨ZF m0.p base l x.boxes,m0.kv,mv⟩})(hs2:Sl W2 56 2 mv' h' ((base++(numbers l x.boxes).2).length+1) (zk zA (base++(numbers l x.boxes).2)++[.int .i64 id,.int .i64 (zw (numbers l x.boxes).1 id)]))(hc:Chg h.toList W W2)(ho:h'=h∨∃g,h'=some g∧W.heap.size≤g) :
  X7 w (W2.setCell ⟨b,off+i * 8+5,none⟩ mv') g q x i m0 base (l++[id]) mv' h':=by
 have s:=uG l id x.boxes
 have t:m0∈q.ms:=hm0 ▸ List.getElem_mem hi
 have d:=hR.st.trans ht
 have C:w.heap.size≤W.heap.size:=d.chg.size
 have a:∀b,h'=some b→w.heap.size≤b:=fun b hb=>by
  rcases ho with r|⟨g2,r,B⟩
  ·exact hR.new b (by rw[←r];exact hb)
  ·rw[r] at hb
   injection hb with hb
   omega
 have z:q.hm=some b:=by
  have f:=hw.mails
  rw[hv] at f
  have G:n=x.mails.length:=by
   obtain⟨A,c,o,_⟩:=f.form
   injection o
  have H:=hw.Za
  obtain⟨I,D,E,F,o,_⟩:=f.at_ (by omega)
  injection o with e1
  injection e1 with e2
  injection e2 with e3
  rw[F,e3]
 have v:Chg (q.own g) w W2:=d.chg.trans hc fun k hk=>.inr (hR.new k (by simpa using hk))
 have m:base++(numbers (l++[id]) x.boxes).2=base++(numbers l x.boxes).2++[(id,zw (numbers l x.boxes).1 id)]:=by
  rw[s]
  simp
 have y:Sl W2 56 2 mv' h' (base++(numbers (l++[id]) x.boxes).2).length (zk zA (base++(numbers (l++[id]) x.boxes).2)):=by
  rw[m,Zf,List.length_append]
  exact hs2
 have r:=d.Jj (m1:=⟨ZF m0.p base l x.boxes,m0.kv,mv⟩) (m2:=⟨ZF m0.p base (l++[id]) x.boxes,m0.kv,mv'⟩) (j:=5) (u:=mv') rfl hw hc (fun k hk=>hR.new k (by simpa using hk)) hv hi (by omega) rfl
  (zav hw t v rfl rfl y a)
 refine⟨?_,?_,a⟩
 ·have B:Xt x i m0.p base (l++[id])={{Xt x i m0.p base l with boxes:=bump id (numbers l x.boxes).1} with mails:=(x.mails.set i (ZF m0.p base l x.boxes)).set i (ZF m0.p base (l++[id]) x.boxes)}:=by
   unfold Xt
   rw[List.set_set,s]
  rw[B]
  exact r
 ·exact y.far (p:=⟨b,off+i * 8+5,none⟩) (fun e=>by
   have r:=a b e
   have B:=hw.lt b (zl.vR z)
   omega) mv'
theorem X7.sorted {mems:List (Int×Int)}(hR:X7 w wr g q x i m0 base l mv h)(hw:zh w g q x)(hi:i < q.ms.length)(hm0:q.ms[i]=m0)(hc:Chg h.toList wr W2)(hlen:mems.length=(base++(numbers l x.boxes).2).length)(hs:Sl W2 56 2 mv h (base++(numbers l x.boxes).2).length (zk zA mems)) :
  Turned w W2 g q {Xt x i m0.p base l with mails:=x.mails.set i {m0.p with members:=mems}} {q with ms:=q.ms.set i ⟨{m0.p with members:=mems},m0.kv,mv⟩}:=by
 have a:m0∈q.ms:=hm0 ▸ List.getElem_mem hi
 have b:Chg (q.own g) w W2:=hR.st.chg.trans hc fun k hk=>.inr (hR.new k (by simpa using hk))
 rw[←hlen] at hs
 have c:=hR.st.zcq (m1:=⟨ZF m0.p base l x.boxes,m0.kv,mv⟩) (m2:=⟨{m0.p with members:=mems},m0.kv,mv⟩) rfl hw hc (fun k hk=>hR.new k (by simpa using hk)) hi rfl (zav hw a b rfl rfl hs hR.new)
 have d:(Xt x i m0.p base l).mails.set i {m0.p with members:=mems}=x.mails.set i {m0.p with members:=mems}:=by
  unfold Xt
  rw[List.set_set]
 rw[←d]
 exact c
end
end Go.Proofs.YtfhlhdmhgheonaaGreatDoor
namespace Go.Proofs.YtfhlhdmhgheonaaGreatDoor
open Go.Shelf Go.RowKit Go.Lib Go.Sort
attribute [local go_sem ↓] Go.wp_at_zero Go.wp_at_succ
theorem Qp (x y:Int×Int)(W:World):Calls Tryz.prog 143 #[.agg #[.int .i64 x.1,.int .i64 x.2],.agg #[.int .i64 y.1,.int .i64 y.2]] W fun e w'=>e=.returned (.int .i64 (cfG (fun p:Int×Int=>p.1) x y))∧∃q os',w'=grow (W.drewN q) os':=by
 obtain⟨c,f⟩:=x
 obtain⟨d,g⟩:=y
 unfold cfG
 simp only
 obtain⟨h,b⟩:∃r,Lib.compareInt c d=r:=⟨_,rfl⟩
 have a:=fun W=>cmpG_any c d W
 rw[b] at a ⊢
 clear b
 go_enter Tryz.func143,Tryz.ntmps143
 go_wp2_with (first
  |(go_at_call 144;with_reducible refine(a _).mono ?_;rintro e i ⟨rfl,rfl⟩)
  |fail)
 go_ret
 exact⟨rfl,0,_,by rw[alloc_eq_grow,alloc_eq_grow,grow_grow];rfl⟩
theorem UQ (blk off size:Nat)(w:World):CmpLays Tryz.prog 143 #[] zA 2 (cfG fun p:Int×Int=>p.1) blk off size w:=
 fun _ _ _ _ x y=>Qp x y _
shelf_lay_g SlLaysF0.n6 Slsf 6 at Tryz 142 as Tryz.sortMem
theorem Ux {l:List (Int×Int)}(h:(l.map (·.1)).Nodup):(uL l).Perm l:=by
 obtain⟨c,d⟩:=X0 h
 refine(List.perm_ext_iff_of_nodup ?_ ?_).2 d
 ·exact c.imp fun {a b} hab e=>by
   rw[e] at hab
   exact absurd hab (Int.lt_irrefl _)
 ·exact(List.pairwise_map.1 h).imp fun {a b} hab e=>hab (by rw[e])
theorem XB {l:List (Int×Int)}(h:(l.map (·.1)).Nodup):(uL l).length=l.length:=(Ux h).length_eq
theorem zas (w:World)(A:Addr)(cap:Nat)(h:Option Nat)(l:List (Int×Int))(hs:Sl w 56 2 (.slice (some A) l.length cap) h l.length (zk zA l))(hd:(l.map (·.1)).Nodup)(hn:l.length≤1099511627776) :
  Calls Tryz.prog 142 #[.slice (some A) l.length cap,.func (.func 143) #[] #[]] w fun e w'=>e=.returned (.tuple #[])∧Sl w' 56 2 (.slice (some A) l.length cap) h l.length (zk zA (uL l))∧Chg h.toList w w':=by
 rcases hs.2 with⟨_,hv,_⟩|⟨b,off,cap',cur,rfl,hv,hB,hnc,hcm,hcs,ht⟩
 ·cases hv
 ·injection hv with hv1 _ hv3
  injection hv1 with hv1
  subst hv1 hv3
  have c:=hs
  rw[←Vd zA 2 (by omega) zJ l] at c
  have i:∀args w,(callFunc 143 args).run Tryz.prog w=.ok (.enter 143 args) w:=enters_of Tryz.func143 (by kernel_rfl) rfl
  have f:=AnyQ.slices_SortFunc Tryz.sortMem 2 Tryz.isAgg56 Tryz.sizeOf56 zA zJ Yz (cfG fun p:Int×Int=>p.1) (swoG _) 143 #[] b off cap l.toArray w i (UQ b off _ w) c.holdsG hB.lt (by simp;omega)
  have a:l.toArray.size=l.length:=by simp
  rw[a] at f
  refine f.mono ?_
  rintro e w' ⟨rfl,j,q,k,m,n,rfl⟩
  have d:j=(uL l).toArray:=zc4 (fun p:Int×Int=>p.1) (by rw[a];exact m) (by rw[a];exact n) (Ux hd) (X0 hd).1
  subst d
  refine⟨rfl,?_,zci _ _ _ _ _ _⟩
  have g:=hs.putRowG q (flatK zA 2 (uL l).toArray) (by simp[XB hd]) k
  rw[Vd zA 2 (by omega) zJ] at g
  exact g
end Go.Proofs.YtfhlhdmhgheonaaGreatDoor
namespace Go.Proofs.YtfhlhdmhgheonaaGreatDoor
open Go.Shelf Go.RowKit
attribute [local go_sem ↓] Go.wp_at_zero Go.wp_at_succ
theorem zax (x:Int×Int)(B:Nat)(v:Value)(l:List Int)(W:World)(hB:W.cell? ⟨B,0,none⟩=some v)(hr:RdS W [] 1 v l.length (l.map encI))(hn:l.length≤1099511627776) :
  Calls Tryz.prog 141 (#[.agg (zA x).toArray]++#[.pointer (some ⟨B,0,none⟩)]) W fun e w'=>e=.returned (.bool (decide (x.1∈l)))∧Below W.heap.size W w':=by
 obtain⟨a,f⟩:=x
 have c:=fun W2 (hb:Below W.heap.size W W2)=>ZT v [] l a W2 (hr.below hb) hn
 have b:=World.block_lt_of_cell? _ _ hB
 have g:=(World.cell?_alloc_lt W (.cells #[.int .i64 a,.int .i64 f] 56) ⟨B,0,none⟩ b).trans hB
 show Calls Tryz.prog 141 #[.agg #[.int .i64 a,.int .i64 f],.pointer (some ⟨B,0,none⟩)] W _
 have d:=zdG c
 clear hr c
 simp only
 generalize h:decide (a∈l)=r at d ⊢
 clear h
 go_enter Tryz.func141,Tryz.ntmps141
 go_wp2_with (first
  |(go_at_call 137;refine(d.out _ (below_alloc1 _ _)).mono ?_;rintro e i ⟨rfl,rfl⟩)
  |fail)
 go_ret
 exact⟨rfl,below_alloc1 _ _⟩
theorem delBy2 {w0 w4:World}{v4 vk:Value}{h4 hk:Option Nat}{l k:List Int}{B:Nat}(fn:Nat)(hne:l≠[])(eg:∀args w,(callFunc fn args).run Tryz.prog w=.ok (.enter fn args) w)(hpred:∀(x:Int) (W:World),W.cell? ⟨B,0,none⟩=some vk→RdS W [] 1 vk k.length (k.map encI)→k.length≤1099511627776→Calls Tryz.prog fn (#[.int .i64 x]++#[.pointer (some ⟨B,0,none⟩)]) W fun e w'=>e=.returned (.bool (decide (x∈k)))∧Below W.heap.size W w')(hcell:w0.cell? ⟨B,0,none⟩=some vk)(hsk:Sl w0 3 1 vk hk k.length (k.map encI))(hkn:k.length≤1099511627776)(hs4:Sl w4 3 1 v4 h4 l.length (l.map encI))(hln:l.length≤1099511627776)(hb4:Below w0.heap.size w0 w4)(ho4:∀b,h4=some b→w0.heap.size≤b) :
  Calls Tryz.prog 134 #[v4,.func (.func fn) #[] #[.pointer (some ⟨B,0,none⟩)]] w4 fun e w'=>∃(A5:Addr) (n5 c5:Nat) (h5:Option Nat),e=.returned (.slice (some A5) n5 c5)∧n5=(l.filter fun x=>!decide (x∈k)).length∧Sl w' 3 1 (.slice (some A5) n5 c5) h5 n5 ((l.filter fun x=>!decide (x∈k)).map encI)∧(∀b,h5=some b→w0.heap.size≤b)∧Below w0.heap.size w0 w':=by
 have f:=World.block_lt_of_cell? _ _ hcell
 have c:0 < l.length:=List.length_pos_iff.2 hne
 obtain⟨n,o,q,g,j,_⟩:=hs4.at_ c
 refine(zaS v4 h4 l (fun x=>decide (x∈k)) fn _ eg w4 hs4 hln (fun W i x _=>?_)).mono ?_
 ·have a:Below w0.heap.size w0 W:=hb4.trans (i.below hb4.size (fun b a=>ho4 b (by simpa using a)))
  exact hpred x W ((a.cell (p:=⟨B,0,none⟩) f).trans hcell) ((hsk.keep (fun b hb2=>a.block b (hsk.lt b hb2))).reads [] (by simp)) hkn
 ·rintro e w' ⟨r,rfl,h,i⟩
  obtain⟨A5,c5,rfl,_,_⟩:=h.form
  have d:=h
  rw[g] at d
  obtain⟨m,rfl⟩:=d.some_
  exact⟨_,_,c5,h4,rfl,rfl,h,ho4,hb4.trans (i.below hb4.size (fun b a=>ho4 b (by simpa using a)))⟩
theorem Q0 {x:Acc}(hf:Fit x){m:zX}(hm:m∈x.mails){bs:List Int}{fr lf:List Int}(hfr:((rise bs).filter fun b=>!decide (b∈yF m.members))=fr)(hlf:((yF m.members).filter fun b=>!decide (b∈rise bs))=lf) :
  (((m.members.filter fun p=>!decide (p.1∈lf))++(numbers fr x.boxes).2).map (·.1)).Nodup:=by
 have c:=(hf.mail m hm).mem
 have d:=XM (bs:=x.boxes) (boxes:=bs) c
 have a:fr.Nodup:=by
  rw[←hfr]
  exact(List.filter_sublist (l:=rise bs)).nodup (xV bs)
 rw[vN fr x.boxes hf.idsB a]
 subst hfr hlf
 exact d
theorem Q9 {x:Acc}{m:zX}{bs:List Int}(hne:bs≠[]){fr lf:List Int}(hfr:((rise bs).filter fun b=>!decide (b∈yF m.members))=fr)(hlf:((yF m.members).filter fun b=>!decide (b∈rise bs))=lf) :
  0 < ((m.members.filter fun p=>!decide (p.1∈lf))++(numbers fr x.boxes).2).length:=by
 obtain⟨i,f⟩:∃i,i∈bs:=by
  cases bs with
  |nil=>exact absurd rfl hne
  |cons i r=>exact⟨i,by simp⟩
 have d:=(vB bs i).2 f
 rw[List.length_append,uz]
 by_cases e:i∈yF m.members
 ·obtain⟨p,g,c⟩:=List.mem_map.1 e
  have a:p∈m.members.filter fun p=>!decide (p.1∈lf):=List.mem_filter.2 ⟨g,by
   rw[←hlf]
   have:p.1=i:=c
   simp[this,d]⟩
  have:=List.length_pos_of_mem a
  omega
 ·have a:i∈fr:=by
   rw[←hfr]
   exact List.mem_filter.2 ⟨d,by simpa using e⟩
  have:=List.length_pos_of_mem a
  omega
theorem Zt {W:World}{g:Nat}{q:zl}{x':Acc}{m1:zR}{b off n cap i:Nat}(h:zh W g {q with ms:=q.ms.set i m1} x')(hv:q.vm=.slice (some ⟨b,off,none⟩) n cap)(hi:i < q.ms.length) :
  b < W.heap.size∧∀j,j < 8→W.cell? ⟨b,off+i * 8+j,none⟩=(xP m1)[j]?∧W.frozen? ⟨b,off+i * 8+j,none⟩=false:=by
 have o:i < x'.mails.length:=by
  have t:=h.Za
  have p:(q.ms.set i m1).length=q.ms.length:=List.length_set
  have u:({q with ms:=q.ms.set i m1}:zl).ms.length=q.ms.length:=p
  omega
 have e:i < ({q with ms:=q.ms.set i m1}:zl).ms.length:=by
  show i < (q.ms.set i m1).length
  rw[List.length_set]
  exact hi
 obtain⟨s,c,d,f,_,_,_,k,l⟩:=h.xu i o e
 have a:q.vm=.slice (some ⟨s,c,none⟩) x'.mails.length d:=f
 rw[hv] at a
 injection a with e1 _ _
 injection e1 with e1
 injection e1 with e1 e2
 subst e1 e2
 refine⟨k,fun j hj=>?_⟩
 have m:=l j hj
 have r:({q with ms:=q.ms.set i m1}:zl).ms[i]=m1:=List.getElem_set_self _
 rw[r] at m
 exact m
end Go.Proofs.YtfhlhdmhgheonaaGreatDoor
