/-
  The walk of the reference's Log.Add. The reference's account in memory: as the program's (XStoreAt, XStoreMem), with another struct and another log. Printed by gen_refat.py. The walk of the reference's Atom. The walk of pillarboxref17.Entries: are two lists one?
-/
import Derived.Test.YtfhlhdmhgheonaaGreatDoorGA
import Derived.Test.YtfhlhdmhgheonaaGreatDoorGD
import Derived.Test.YtfhlhdmhgheonaaGreatDoorGB
import Derived.Laws.StructEq
set_option maxRecDepth 100000
set_option maxHeartbeats 8000000
namespace Go.Proofs.YtfhlhdmhgheonaaGreatDoor
open Go.RowKit
attribute [local go_sem ↓] Go.wp_at_zero Go.wp_at_succ
def vL (w:World)(g:Nat)(h:Option Nat)(x:Yc):Prop:=
 ∃v,Blk w g 104 #[.int .i64 x.most,v,.int .i64 x.floor]∧Sl w 177 4 v h x.es.length (zM x.es)
theorem vL.chg {w w':World}{g:Nat}{h:Option Nat}{x:Yc}{S:List Nat}(hl:vL w g h x)(hc:Chg S w w')(hg:g∉S)(hh:∀b,h=some b→b∉S):vL w' g h x:=by
 obtain⟨v,a,c⟩:=hl
 exact⟨v,a.chg hc hg,c.chg hc hh⟩
theorem vL.heap {w w':World}{g:Nat}{h:Option Nat}{x:Yc}(hl:vL w g h x)(he:w'.heap=w.heap):vL w' g h x:=by
 obtain⟨v,a,b⟩:=hl
 exact⟨v,a.heap he,b.heap he⟩
structure UL (w:World)(g:Nat)(h:Option Nat)(x:Yc)(e:List E4)(k:Nat)(es:List E4)(h':Option Nat)(wr:World):Prop where
 loop:yT x.es e=yT es (e.drop k)
 len:es.length≤x.es.length+k
 some_:k=0∨es≠[]
 log:vL wr g h' ⟨x.most,es,x.floor⟩
 chg:Chg (g :: h.toList) w wr
 own:h'=h∨∃k,h'=some k∧w.heap.size≤k
theorem QA {w wr W1 w2:World}{g:Nat}{h h' h2:Option Nat}{x:Yc}{e es:List E4}{k:Nat}{y:E4}{A' A2:Option Addr}{n m cap' cap2:Nat}{o:Obj}(hu:UL w g h x e k es h' wr)(hk:k < e.length)(hy:e[k]=y)(hno:¬∃z∈es.getLast?,y.m < z.m)(q2:Blk W1 g 104 #[.int .i64 x.most,.slice A' n cap',.int .i64 x.floor])(q1:Sl W1 177 4 (.slice A' n cap') h' n (zM es))(q4:Chg (g :: h.toList) w W1)(hs2:Sl w2 177 4 (.slice A2 m cap2) h2 (n+1) (zM es++(#[.int .i64 y.m,.int .i64 y.k,.int .i64 y.i,.int .i64 y.h]:Array Value).toList))(hc2:Chg h'.toList (W1.alloc o).drew w2)(ho2:h2=h'∨∃g,h2=some g∧(W1.alloc o).drew.heap.size≤g) :
  UL w g h x e (k+1) (es++[y]) h2 (w2.setCell ⟨g,1,none⟩ (.slice A2 m cap2)):=by
 have q:(W1.alloc o).drew.heap.size=W1.heap.size+1:=by simp
 have j:g∉h'.toList:=fun d=>by
  simp at d
  exact q1.yN q2 (by decide) g d rfl
 have r:w.heap.size≤W1.heap.size:=q4.size
 have a:Blk w2 g 104 #[.int .i64 x.most,.slice A' n cap',.int .i64 x.floor]:=((q2.alloc o).heap rfl:Blk (W1.alloc o).drew g _ _).chg hc2 j
 have l:zM es++(#[.int .i64 y.m,.int .i64 y.k,.int .i64 y.i,.int .i64 y.h]:Array Value).toList=zM (es++[y]):=by rw[zP];rfl
 rw[l] at hs2
 have b:h2≠some g:=by
  intro u
  exact hs2.yN a (by decide) g u rfl
 have s:n=es.length:=by have:=q1.1;rw[uw] at this;omega
 have d:m=n+1:=by
  obtain⟨A,B,v,_⟩:=hs2.form
  injection v
 subst d
 subst s
 have c:Chg (g :: h.toList) w w2:=by
  refine(((q4.alloc o).drew).trans hc2 fun i hi=>?_)
  simp at hi
  rcases hu.own with h1|⟨k1,h1,f⟩
  ·rw[h1] at hi
   exact .inl (by simp[hi])
  ·rw[h1] at hi
   simp at hi
   subst hi
   exact .inr f
 refine⟨?_,?_,.inr (by simp),⟨_,a.set 1 _,?_⟩,c.set (.inl (by simp)) _,?_⟩
 ·rw[hu.loop,List.drop_eq_getElem_cons hk,hy,yT,if_neg hno]
 ·have:=hu.len
  simp only[List.length_append,List.length_cons,List.length_nil]
  omega
 ·have f:=hs2.far (p:=⟨g,1,none⟩) b (.slice A2 (es.length+1) cap2)
  have t:(es++[y]).length=es.length+1:=by simp
  rw[t]
  exact f
 ·rcases ho2 with h1|⟨k1,h1,f⟩
  ·rw[h1]
   exact hu.own
  ·exact .inr ⟨k1,h1,by omega⟩
def flAt (es:List E4)(fl:Int)(j:Nat):Int:=if j=0 then fl else (es[j - 1]?.getD default).m
theorem QS (x:Yc)(e es:List E4)(j:Nat)(hF:yT x.es e=es)(hj:(j:Int)≤max 0 ((es.length:Int) - x.most))(hstop:(es.length:Int) - j≤x.most):x.add e=⟨x.most,es.drop j,flAt es x.floor j⟩:=by
 unfold Yc.add
 rw[hF]
 by_cases h:(es.length:Int) - x.most > 0
 ·have a:((es.length:Int) - x.most).toNat=j:=by omega
  rw[if_pos h,a]
  unfold flAt
  rw[if_neg (by omega)]
 ·have b:j=0:=by omega
  subst b
  rw[if_neg h]
  rfl
structure YK (w:World)(g:Nat)(h:Option Nat)(x:Yc)(es:List E4)(j:Nat)(h':Option Nat)(wr:World):Prop where
 log:vL wr g h' ⟨x.most,es.drop j,flAt es x.floor j⟩
 chg:Chg (g :: h.toList) w wr
 own:h'=h∨∃k,h'=some k∧w.heap.size≤k
def Qb (w:World)(g:Nat):Nat:=match w.cell? ⟨g,1,none⟩ with
 |some (.slice _ n _)=>n
 |_=>0
theorem vL.Qb {w:World}{g:Nat}{h:Option Nat}{x:Yc}(hl:vL w g h x):Qb w g=x.es.length:=by
 obtain⟨v,c,d⟩:=hl
 obtain⟨A,a,rfl,_,_⟩:=d.form
 have b:w.cell? ⟨g,1,none⟩=some (.slice A x.es.length a):=c.cell 1
 unfold Proofs.YtfhlhdmhgheonaaGreatDoor.Qb
 rw[b]
theorem YK.heap {w wr w':World}{g:Nat}{h h':Option Nat}{x:Yc}{es:List E4}{j:Nat}(q:YK w g h x es j h' wr)(n:Nat)(e:w'=wr.drewN n):YK w g h x es j h' w':=by
 subst e
 exact⟨q.log.heap rfl,q.chg.drewN n,q.own⟩
theorem zc2 {w wr w2:World}{g:Nat}{h h' h2:Option Nat}{x:Yc}{es:List E4}{j M:Nat}{A2:Option Addr}{n m cap2:Nat}{v:Value}{o:Obj}{z:Int}(hu:YK w g h x es j h' wr)(hj:j < es.length)(hz:es[j].m=z)(hM:x.most=(M:Int))(q2:Blk wr g 104 #[.int .i64 M,v,.int .i64 (flAt es x.floor j)])(hn:n=es.length - (j+1))(hs2:Sl w2 177 4 (.slice A2 m cap2) h2 n (zM (es.drop (j+1))))(hfr:∃b,h2=some b∧wr.heap.size≤b)(hc2:Chg [wr.heap.size] ((wr.setCell ⟨g,2,none⟩ (.int .i64 z)).alloc o) w2) :
  YK w g h x es (j+1) h2 (w2.setCell ⟨g,1,none⟩ (.slice A2 m cap2)):=by
 have r:g < wr.heap.size:=q2.lt
 have f:=hu.chg.size
 have a:Blk w2 g 104 #[.int .i64 M,v,.int .i64 z]:=((q2.set 2 (.int .i64 z)).alloc o).chg hc2 (by simp;omega)
 have c:h2≠some g:=fun hh=>hs2.yN a (by decide) g hh rfl
 have e:flAt es x.floor (j+1)=z:=by
  unfold flAt
  rw[if_neg (by omega)]
  simp[hj,hz]
 have d:(es.drop (j+1)).length=n:=by rw[List.length_drop,hn]
 refine⟨⟨.slice A2 m cap2,?_,?_⟩,?_,?_⟩
 ·rw[e,hM]
  exact a.set 1 _
 ·simp only[d]
  exact hs2.far (p:=⟨g,1,none⟩) c _
 ·have k:Chg (g :: h.toList) w ((wr.setCell ⟨g,2,none⟩ (.int .i64 z)).alloc o):=(hu.chg.set (p:=⟨g,2,none⟩) (.inl (by simp)) _).alloc o
  exact(k.trans hc2 (fun i hi=>by simp at hi;subst hi;exact .inr f)).set (p:=⟨g,1,none⟩) (.inl (by simp)) _
 ·obtain⟨b,l,q⟩:=hfr
  exact .inr ⟨b,l,by omega⟩
theorem zbL (w:World)(g:Nat)(h:Option Nat)(x:Yc)(A:Option Addr)(cap:Nat)(e:List E4)(hl:vL w g h x)(hm1:1≤x.most)(hm2:x.most≤1099511627776)(hn1:x.es.length≤1099511627776)(hn2:e.length≤1099511627776)(hr:RdE w A (g :: h.toList) e) :
  Calls Tryz.prog 108 #[.pointer (some ⟨g,0,none⟩),.slice A e.length cap] w fun e' w'=>e'=.returned (.tuple #[])∧
   ∃h',vL w' g h' (x.add e)∧Chg (g :: h.toList) w w'∧(h'=h∨∃k,h'=some k∧w.heap.size≤k):=by
 obtain⟨i0,hi,ad,ae,af⟩:=info_parts Try.infoEntry
 have I:UL w g h x e 0 x.es h w:=⟨rfl,by omega,.inl rfl,hl,Chg.refl _ _,.inl rfl⟩
 have HS:=zdG I
 clear I hl
 have HR:=zdG hr
 clear hr
 obtain⟨L,hL⟩:∃L,e.length=L:=⟨_,rfl⟩
 rw[hL]
 rw[hL] at hn2
 have HL:=zdG hL
 clear hL
 go_enter Tryz.func108,Tryz.ntmps108
 go_upto_block 0 with(fail)
 go_cut [] (fun wx=>∃(es:List E4) (h':Option Nat),Hid (yT x.es e=es)∧Hid (vL wx g h' ⟨x.most,es,x.floor⟩∧Chg (g :: h.toList) w wx∧(h'=h∨∃k,h'=some k∧w.heap.size≤k))∧es.length≤2199023255552)
 case first=>
  go_wp2_with fail
  go_loopw [4] (fun i wr=>∃(k:Nat) (es:List E4) (h':Option Nat),k≤L∧i=.int .i64 k∧Hid (UL w g h x e k es h' wr)) (fun i _=>L - (intOf i).toNat)
  case atStart=>exact⟨0,_,_,Nat.zero_le _,rfl,HS⟩
  case round=>
   obtain⟨k,es,h',hk,rfl,o⟩:=hrel
   by_cases b5:k < L
   ·have T:k < e.length:=by rw[HL.out];exact b5
    obtain⟨b,d,rfl,a2,b6,Z⟩:=HR.out (by rintro rfl;simp at T)
    have U:∀j,j < e.length * 4→wr.cell? ⟨b,d+j,none⟩=(zM e)[j]?:=fun j hj=>(o.out.chg.cell (p:=⟨b,d+j,none⟩) a2 b6).trans (Z j hj)
    obtain⟨f0,f1,f2,f3⟩:=ZU e k T
    have d0:wr.cell? ⟨b,d+k * 4,none⟩=some (.int .i64 e[k].m):=(U (k * 4) (by omega)).trans f0
    have d1:wr.cell? ⟨b,d+k * 4+1,none⟩=some (.int .i64 e[k].k):=(U (k * 4+1) (by omega)).trans f1
    have d2:wr.cell? ⟨b,d+k * 4+2,none⟩=some (.int .i64 e[k].i):=(U (k * 4+2) (by omega)).trans f2
    have d3:wr.cell? ⟨b,d+k * 4+3,none⟩=some (.int .i64 e[k].h):=(U (k * 4+3) (by omega)).trans f3
    clear U Z f0 f1 f2 f3
    obtain⟨v,O,t⟩:=o.out.log
    obtain⟨A',c,rfl,R,b7⟩:=t.form
    have c1:wr.cell? ⟨g,1,none⟩=some (.slice A' es.length c):=O.cell 1
    have au:g < wr.heap.size:=O.lt
    have a3:b < wr.heap.size:=Nat.lt_of_lt_of_le a2 o.out.chg.size
    generalize he:e[k]=y at d0 d1 d2 d3
    have HE:=zdG he
    clear he
    have HB:=zdG O
    have G:=zdG t
    have a7:es.length≤2199023255552:=by have:=o.out.len;omega
    clear O t
    by_cases hz:es.length=0
    ·have ah:es=[]:=List.eq_nil_of_length_eq_zero hz
     have av:k=0:=by
      rcases o.out.some_ with Q|Q
      ·exact Q
      ·exact absurd ah Q
     subst ah
     subst av
     simp only[List.length_nil] at c1 R a7
     have G:Hid (Sl wr 177 4 (.slice A' 0 c) h' 0 (zM [])):=G
     have HB:Hid (Blk wr g 104 #[.int .i64 x.most,.slice A' 0 c,.int .i64 x.floor]):=HB
     have a8:¬∃z∈([]:List E4).getLast?,y.m < z.m:=by simp
     clear hz
     simp only[Nat.zero_mul,Nat.add_zero] at d0 d1 d2 d3
     go_wp2_with fail
     go_quiet (fail)
     go_wp2_with fail
     have q1:Sl (wr.drewN nq) 177 4 (.slice A' (0) c) h' (0) (zM []):=G.out.heap rfl
     have H:Blk (wr.drewN nq) g 104 #[.int .i64 x.most,.slice A' (0) c,.int .i64 x.floor]:=HB.out.heap rfl
     have q4:Chg (g :: h.toList) w (wr.drewN nq):=o.out.chg.drewN _
     have k0:(wr.drewN nq).cell? ⟨b,d,none⟩=some (.int .i64 y.m):=d0
     have k1:(wr.drewN nq).cell? ⟨b,d+1,none⟩=some (.int .i64 y.k):=d1
     have k2:(wr.drewN nq).cell? ⟨b,d+2,none⟩=some (.int .i64 y.i):=d2
     have k3:(wr.drewN nq).cell? ⟨b,d+3,none⟩=some (.int .i64 y.h):=d3
     have J:b < (wr.drewN nq).heap.size:=a3
     generalize wr.drewN nq=W1 at q1 H q4 k0 k1 k2 k3 J ⊢
     clear d0 d1 d2 d3
     have e1:W1.cell? ⟨g,1,none⟩=some (.slice A' (0) c):=H.cell 1
     have e2:W1.frozen? ⟨g,1,none⟩=false:=H.frozen 1
     have B:g < W1.heap.size:=H.lt
     have V:g∉h'.toList:=fun hm=>by
      simp at hm
      exact q1.yN H (by decide) g hm rfl
     go_region_law (refine zx _ (by rfl) (.tmp 68) (.tmp 73) _ (by rfl) Tryz.underlying102 hi ad ae af rfl (by omega) ((q1.alloc _).heap (by rfl)) (by simp[Act.eval]) W1.heap.size #[.int .i64 y.m,.int .i64 y.k,.int .i64 y.i,.int .i64 y.h] (e':=177) (fr:=(0,0)) (heap_alloc_new W1 _) 1 1 (by simp[Act.eval]) (by rfl) (by simp[Value.oneCell']) (by unfold maxLen;omega) (by omega) ?_;intro v2 h2 w2 s f E;obtain⟨A2,P,rfl,_,_⟩:=s.form;have aw:w2.frozen? ⟨g,1,none⟩=false:=(f.frozen (p:=⟨g,1,none⟩) (by simp;omega) V).trans ((World.frozen?_alloc_past _ _ _ B).trans e2);have ax:w2.cell? ⟨g,1,none⟩=some (.slice A' (0) c):=(f.cell (p:=⟨g,1,none⟩) (by simp;omega) V).trans ((World.cell?_alloc_past _ _ _ B).trans e1))
     all_goals
      have hrel:=QA o.out T HE.out a8 H q1 q4 s f E
      have D:=zdG hrel
      clear hrel s f E
      go_wp2
      refine⟨?_,by simp[intOf];try omega⟩
      first|exact⟨0+1,_,_,by omega,by go_num,D⟩|((repeat apply Exists.intro);exact⟨⟨0+1,_,_,by omega,by go_num,D⟩,rfl⟩)
    ·obtain⟨l,z,rfl⟩:∃l z,es=l++[z]:=⟨es.dropLast,es.getLast (by rintro rfl;simp at hz),(List.dropLast_concat_getLast _).symm⟩
     have hN:(l++[z]).length=l.length+1:=by simp
     rw[hN] at c1 R a7 HB G
     obtain⟨ab,F,bc,bm,ag,_,_,J,S⟩:=G.out.at_ (by omega)
     injection ag with hva1 hva2 hva3
     subst hva1
     subst hva3
     clear hva2
     have ay:wr.cell? ⟨ab,F+l.length * 4,none⟩=some (.int .i64 z.m):=by
      have Q:=(S (l.length * 4) (by omega)).1
      rw[Q]
      have h2:=(ZU (l++[z]) l.length (by simp)).1
      rw[h2]
      simp
     clear S
     have W:(l++[z]).getLast?=some z:=by simp
     generalize ap:l.length=N at c1 R a7 HB G ay
     have az:=zdG ap
     clear ap hN hz
     have be:IntKind.i64.wrap ((N:Int)+1 - 1)=(N:Int):=by rw[show (N:Int)+1 - 1=N from by omega];exact IntWalk.i64_in _ (by omega)
     have bf:IntKind.i64.wrap (N:Int)=(N:Int):=IntWalk.i64_in _ (by omega)
     have bg:(N:Int) < (N:Int)+1:=by omega
     have ba:(0:Int)≤(N:Int):=by omega
     have bb:((N:Int)+1==0)=false:=by
      rw[beq_eq_false_iff_ne]
      omega
     by_cases a1:y.m < z.m
     ·have r:yT x.es e=l++[z]:=by
       rw[o.out.loop,List.drop_eq_getElem_cons T,HE.out,yT,if_pos]
       rw[W]
       simpa using a1
      have HF:=zdG r
      have hd:decide (y.m < z.m)=true:=by simpa using a1
      clear r
      go_wp2_with fail
      go_quiet (fail)
      go_wp2_with fail
      go_meet
      exact⟨_,h',HF,⟨o.out.log.heap rfl,o.out.chg.drewN _,o.out.own⟩,by simp[az.out];omega⟩
     ·have a8:¬∃u∈(l++[z]).getLast?,y.m < u.m:=by
       rw[W]
       simpa using a1
      have hd:decide (y.m < z.m)=false:=by simpa using a1
      go_wp2_with fail
      go_quiet (fail)
      go_wp2_with fail
      have q1:Sl (wr.drewN nq) 177 4 (.slice (some ⟨ab,F,none⟩) (N+1) c) h' (N+1) (zM (l++[z])):=G.out.heap rfl
      have H:Blk (wr.drewN nq) g 104 #[.int .i64 x.most,.slice (some ⟨ab,F,none⟩) (N+1) c,.int .i64 x.floor]:=HB.out.heap rfl
      have q4:Chg (g :: h.toList) w (wr.drewN nq):=o.out.chg.drewN _
      have k0:(wr.drewN nq).cell? ⟨b,d+k * 4,none⟩=some (.int .i64 y.m):=d0
      have k1:(wr.drewN nq).cell? ⟨b,d+k * 4+1,none⟩=some (.int .i64 y.k):=d1
      have k2:(wr.drewN nq).cell? ⟨b,d+k * 4+2,none⟩=some (.int .i64 y.i):=d2
      have k3:(wr.drewN nq).cell? ⟨b,d+k * 4+3,none⟩=some (.int .i64 y.h):=d3
      have J:b < (wr.drewN nq).heap.size:=a3
      generalize wr.drewN nq=W1 at q1 H q4 k0 k1 k2 k3 J ⊢
      clear d0 d1 d2 d3
      have e1:W1.cell? ⟨g,1,none⟩=some (.slice (some ⟨ab,F,none⟩) (N+1) c):=H.cell 1
      have e2:W1.frozen? ⟨g,1,none⟩=false:=H.frozen 1
      have B:g < W1.heap.size:=H.lt
      have V:g∉h'.toList:=fun hm=>by
       simp at hm
       exact q1.yN H (by decide) g hm rfl
      go_region_law (refine zx _ (by rfl) (.tmp 68) (.tmp 73) _ (by rfl) Tryz.underlying102 hi ad ae af rfl (by omega) ((q1.alloc _).heap (by rfl)) (by simp[Act.eval]) W1.heap.size #[.int .i64 y.m,.int .i64 y.k,.int .i64 y.i,.int .i64 y.h] (e':=177) (fr:=(0,0)) (heap_alloc_new W1 _) 1 1 (by simp[Act.eval]) (by rfl) (by simp[Value.oneCell']) (by unfold maxLen;omega) (by omega) ?_;intro v2 h2 w2 s f E;obtain⟨A2,P,rfl,_,_⟩:=s.form;have aw:w2.frozen? ⟨g,1,none⟩=false:=(f.frozen (p:=⟨g,1,none⟩) (by simp;omega) V).trans ((World.frozen?_alloc_past _ _ _ B).trans e2);have ax:w2.cell? ⟨g,1,none⟩=some (.slice (some ⟨ab,F,none⟩) (N+1) c):=(f.cell (p:=⟨g,1,none⟩) (by simp;omega) V).trans ((World.cell?_alloc_past _ _ _ B).trans e1))
      all_goals
       have hrel:=QA o.out T HE.out a8 H q1 q4 s f E
       have D:=zdG hrel
       clear hrel s f E
       go_wp2
       refine⟨?_,by simp[intOf];try omega⟩
       first|exact⟨k+1,_,_,by omega,by go_num,D⟩|((repeat apply Exists.intro);exact⟨⟨k+1,_,_,by omega,by go_num,D⟩,rfl⟩)
   ·have a':k=L:=by omega
    subst a'
    have r:yT x.es e=es:=by
     rw[o.out.loop,List.drop_of_length_le (by rw[HL.out];exact Nat.le_refl _)]
     rfl
    have HF:=zdG r
    clear r
    go_wp2_with fail
    go_meet
    exact⟨_,h',HF,⟨o.out.log,o.out.chg,o.out.own⟩,by have:=o.out.len;omega⟩
 case rest=>
  obtain⟨es,h',HF,HG,bd⟩:=hcut
  obtain⟨M,hM⟩:∃M:Nat,x.most=(M:Int):=⟨x.most.toNat,by omega⟩
  have ai:YK w g h x es 0 h' wc:=⟨by simpa[flAt] using HG.out.1,HG.out.2.1,HG.out.2.2⟩
  have b0:=zdG ai
  have a0:=zdG hM
  have bh:1≤M:=by omega
  clear HR HS HL ai HG hm1 hm2 hM
  go_wp2_with fail
  go_loopw [] (fun wr=>∃(j:Nat) (h':Option Nat),j≤es.length - M∧Hid (YK w g h x es j h' wr)) (fun wr=>Qb wr g)
  case atStart=>exact⟨0,h',Nat.zero_le _,b0⟩
  case round=>
   obtain⟨j,h2,hj,o⟩:=hrel
   obtain⟨v,O,t⟩:=o.out.log
   obtain⟨A',c,rfl,R,b7⟩:=t.form
   have aj:(es.drop j).length=es.length - j:=by simp
   simp only[aj,a0.out] at O t R
   have b1:=zdG (o.out.log.Qb.trans aj)
   obtain⟨n,hn⟩:∃n,es.length - j=n:=⟨_,rfl⟩
   rw[hn] at O t R
   have c0:wr.cell? ⟨g,0,none⟩=some (.int .i64 (M:Int)):=O.cell 0
   have c1:wr.cell? ⟨g,1,none⟩=some (.slice A' n c):=O.cell 1
   have au:g < wr.heap.size:=O.lt
   by_cases aq:M < n
   ·have hd:decide ((M:Int) < (n:Int))=true:=by simpa using aq
    have a9:j < es.length:=by omega
    obtain⟨b,d,P,hh,ag,_,_,a2,S⟩:=t.at_ (by omega)
    injection ag with hva1 hva2 hva3
    subst hva1
    subst hva3
    clear hva2
    have d0:wr.cell? ⟨b,d,none⟩=some (.int .i64 es[j].m):=by
     have Q:=(S 0 (by omega)).1
     rw[Nat.add_zero] at Q
     rw[Q,List.drop_eq_getElem_cons a9]
     rfl
    have X:∀i u,(zM (es.drop (j+1)))[i]?=some u→wr.cell? ⟨b,d+4+i,none⟩=some u:=fun i u hu=>by
     have bi:i < (n - 1) * 4:=by
      have Q:=(List.getElem?_eq_some_iff.1 hu).1
      rw[uw,List.length_drop] at Q
      omega
     have Q:=(S (4+i) (by omega)).1
     rw[←Nat.add_assoc] at Q
     rw[Q,List.drop_eq_getElem_cons a9,Zv,List.getElem?_append_right (by simp[QH])]
     simpa[QH] using hu
    have H:=(O.heap (w':=wr) rfl)
    have HB:=zdG O
    have aa:=zdG X
    clear S X O t H
    have hz:es[j].m=es[j].m:=rfl
    generalize ar:es[j].m=z at d0
    have HZ:=zdG ar
    clear hz ar
    have ak:¬b=g:=fun e=>by
     obtain⟨v3,b8,b9⟩:=o.out.log
     exact b9.yN b8 (by decide) b hh e
    have bj:¬g=b:=fun e=>ak e.symm
    have hm1:0 < n:=by omega
    have bk:(1:Int)≤(n:Int):=by omega
    have a4:n - 1=es.length - (j+1):=by omega
    have bl:n - 1≤2199023255552:=by omega
    have Y:(zM (es.drop (j+1))).length=(n - 1) * 4:=by rw[uw,List.length_drop];omega
    have b2:=zdG Y
    have al:=zdG a4
    clear Y a4
    go_wp2_with fail
    go_quiet (fail)
    have am:=zdG (o.out.heap nq rfl)
    have C:Hid (Blk (wr.drewN nq) g 104 #[.int .i64 (M:Int),.slice (some ⟨b,d,none⟩) n c,.int .i64 (flAt es x.floor j)]):=zdG (HB.out.heap rfl)
    have K:Hid (∀i u,(zM (es.drop (j+1)))[i]?=some u→(wr.drewN nq).cell? ⟨b,d+4+i,none⟩=some u):=aa
    have d1:(wr.drewN nq).cell? ⟨b,d,none⟩=some (.int .i64 z):=d0
    have a5:b < (wr.drewN nq).heap.size:=a2
    generalize wr.drewN nq=W1 at am C K d1 a5 ⊢
    clear d0 c0 c1
    have e0:W1.cell? ⟨g,0,none⟩=some (.int .i64 (M:Int)):=C.out.cell 0
    have e1:W1.cell? ⟨g,1,none⟩=some (.slice (some ⟨b,d,none⟩) n c):=C.out.cell 1
    have e2:W1.cell? ⟨g,2,none⟩=some (.int .i64 (flAt es x.floor j)):=C.out.cell 2
    have e3:W1.frozen? ⟨g,1,none⟩=false:=C.out.frozen 1
    have e4:W1.frozen? ⟨g,2,none⟩=false:=C.out.frozen 2
    have B:g < W1.heap.size:=C.out.lt
    go_wp2_with (at_builtin;refine yA _ rfl _ _ 102 rfl Tryz.underlying102 hi ad ae af rfl (by decide) (xg (W1.setCell ⟨g,2,none⟩ (.int .i64 z)) 177 4) ?_ ⟨b,d+4,none⟩ (n - 1) (c - 1) (zM (es.drop (j+1))) ?_ b2.out ?_ (Y0 _) ?_ ?_ ?_)
    ·simp[Act.eval]
    ·simp[Act.eval]
    ·intro i u hu
     have an:((W1.setCell ⟨g,2,none⟩ (.int .i64 z)).alloc (.cells #[] 177)).heap[b]?=W1.heap[b]?:=
      (Below.heap_alloc _ _ b (by simpa[World.setCell] using a5)).trans (Below.heap_setCell W1 _ _ b ak)
     rw[Addr.add_lit]
     exact(World.cell?_of_block (a:=⟨b,d+4+i,none⟩) an).trans (K.out i u hu)
    ·unfold maxLen
     omega
    ·omega
    ·intro v2 h3 w2 s f E
     obtain⟨A2,P,rfl,_,_⟩:=s.form
     have ac:=((C.out.set 2 (.int .i64 z)).alloc (.cells #[] 177)).chg f (by simp;omega)
     have f1:w2.cell? ⟨g,1,none⟩=some (.slice (some ⟨b,d,none⟩) n c):=ac.cell 1
     have f2:w2.frozen? ⟨g,1,none⟩=false:=ac.frozen 1
     have q:=zc2 am.out a9 HZ.out a0.out C.out al.out s (by
      rcases E with h4|⟨k,h4,h5⟩
      ·exact⟨_,h4,Nat.le_refl _⟩
      ·exact⟨k,h4,by omega⟩) f
     have HQ:=zdG q
     have b3:=zdG (q.log.Qb)
     clear q ac s f E
     go_wp2
     have b4:Qb (w2.setCell ⟨g,1,none⟩ (.slice A2 (n - 1) P)) g < Qb wr g:=by
      rw[b3.out,b1.out]
      simp only[List.length_drop]
      omega
     refine⟨?_,b4⟩
     first|exact⟨j+1,_,by omega,HQ⟩|((repeat apply Exists.intro);exact⟨⟨j+1,_,by omega,HQ⟩,rfl⟩)
   ·have hd:decide ((M:Int) < (n:Int))=false:=by simpa using aq
    have a6:=QS x e es j HF.out (by rw[a0.out];omega) (by rw[a0.out];omega)
    have ao:=zdG a6
    clear a6 O t
    go_wp2_with fail
    go_quiet (fail)
    go_wp2
    go_end0
    refine⟨rfl,h2,?_,o.out.chg.drewN _,o.out.own⟩
    rw[ao.out]
    exact o.out.log.heap rfl
end Go.Proofs.YtfhlhdmhgheonaaGreatDoor
namespace Go.Proofs.YtfhlhdmhgheonaaGreatDoor
open Go.RowKit
def Zq (q:zl)(x:Acc):List Value:=zdx x.cfg++[.int .i64 x.clock,q.vb,q.vm,.pointer (some ⟨q.gl,0,none⟩),.int .i64 x.lastBox,.int .i64 x.lastId]
structure zi (w:World)(g:Nat)(q:zl)(x:Acc):Prop where
 blk:Blk w g 46 (Zq q x).toArray
 log:vL w q.gl q.hl x.log
 boxes:Sl w 89 6 q.vb q.hb x.boxes.length (zk xQ x.boxes)
 same:q.ms.map (·.p)=x.mails
 mails:Sl w 54 8 q.vm q.hm x.mails.length (zk xP q.ms)
 parts:∀m∈q.ms,yD w (q.own g) m
section
variable {w w':World} {g:Nat} {q:zl} {x:Acc} {S T:List Nat} {m:zR}
theorem zi.lt (h:zi w g q x):∀k∈q.own g,k < w.heap.size:=by
 intro k a
 obtain⟨v,b,c⟩:=h.log
 simp only[zl.own,List.mem_cons,List.mem_append,Option.mem_toList] at a
 rcases a with rfl|rfl|(a|a)|a
 ·exact h.blk.lt
 ·exact b.lt
 ·exact c.lt k a
 ·exact h.boxes.lt k a
 ·exact h.mails.lt k a
theorem zi.later (h:zi w g q x)(hb:Below w.heap.size w w'):zi w' g q x:=by
 have a:Chg [] w w':=Chg.of_below hb []
 refine⟨h.blk.chg a (by simp),h.log.chg a (by simp) (by simp),h.boxes.chg a (by simp),h.same,h.mails.chg a (by simp),fun m hm=>(h.parts m hm).keep hb.size (fun b hb2 _=>hb.block b hb2) (fun _ _ h=>h)⟩
theorem zi.alloc (h:zi w g q x)(o:Obj):zi (w.alloc o) g q x:=h.later ((Below.refl _ w).alloc (Nat.le_refl _) o)
theorem zi.cells (h:zi w g q x)(j:Nat):w.cell? ⟨g,j,none⟩=(Zq q x)[j]?:=by
 rw[h.blk.cell]
 simp
theorem zi.yo (h:zi w g q x):w.cell? ⟨g,9,none⟩=some (.int .i64 x.clock):=h.cells 9
theorem zi.zQ (h:zi w g q x):w.cell? ⟨g,10,none⟩=some q.vb:=h.cells 10
theorem zi.zU (h:zi w g q x):w.cell? ⟨g,11,none⟩=some q.vm:=h.cells 11
theorem zi.zV (h:zi w g q x):w.cell? ⟨g,12,none⟩=some (.pointer (some ⟨q.gl,0,none⟩)):=h.cells 12
theorem zi.YD (h:zi w g q x):w.cell? ⟨g,13,none⟩=some (.int .i64 x.lastBox):=h.cells 13
theorem zi.XG (h:zi w g q x):w.cell? ⟨g,14,none⟩=some (.int .i64 x.lastId):=h.cells 14
theorem zi.frozen (h:zi w g q x)(j:Nat):w.frozen? ⟨g,j,none⟩=false:=h.blk.frozen j
end
structure ze (w w':World)(g:Nat)(q:zl)(x':Acc)(q':zl):Prop where
 at_:zi w' g q' x'
 chg:Chg (q.own g) w w'
 own:∀k∈q'.own g,k∈q.own g∨w.heap.size≤k
section
variable {w w' w'':World} {g:Nat} {q q' q'':zl} {x x' x'':Acc}
theorem ze.refl (h:zi w g q x):ze w w g q x q:=⟨h,Chg.refl _ _,fun _ h=>.inl h⟩
theorem ze.of_below (h:zi w g q x)(hb:Below w.heap.size w w'):ze w w' g q x q:=⟨h.later hb,Chg.of_below hb _,fun _ h=>.inl h⟩
theorem ze.trans (h:ze w w' g q x' q')(k:ze w' w'' g q' x'' q''):ze w w'' g q x'' q'':=
 ⟨k.at_,h.chg.trans k.chg h.own,fun i hi=>by
  rcases k.own i hi with h1|h1
  ·exact h.own i h1
  ·exact .inr (Nat.le_trans h.chg.size h1)⟩
end
structure Yr (w wr:World)(g:Nat)(q:zl)(x:Acc):Prop where
 at_:zi wr g q x
 below:Below w.heap.size w wr
 own:∀k∈q.own g,w.heap.size≤k
section
variable {w wr w':World} {g:Nat} {q q':zl} {x x':Acc}
theorem Yr.later (h:Yr w wr g q x)(hb:Below wr.heap.size wr w'):Yr w w' g q x:=⟨h.at_.later hb,h.below.trans (hb.mono h.below.size),h.own⟩
theorem Yr.turned (h:Yr w wr g q x)(k:ze wr w' g q x' q'):Yr w w' g q' x':=
 ⟨k.at_,h.below.trans (k.chg.below h.below.size h.own),fun i hi=>by
  rcases k.own i hi with h1|h1
  ·exact h.own i h1
  ·exact Nat.le_trans h.below.size h1⟩
end
section
variable {w w':World} {g:Nat} {q q':zl} {x x':Acc}
theorem zi.apart (h:zi w g q x):Apart g q:=by
 obtain⟨v,a,b⟩:=h.log
 exact⟨h.blk.ne a (by decide),fun e=>b.yN h.blk (by decide) g e rfl,fun e=>h.boxes.yN h.blk (by decide) g e rfl,fun e=>h.mails.yN h.blk (by decide) g e rfl,fun e=>h.boxes.yN a (by decide) _ e rfl,fun e=>h.mails.yN a (by decide) _ e rfl,
  fun e=>b.yN a (by decide) _ e rfl,b.XR h.boxes (by decide),b.XR h.mails (by decide),h.boxes.XR h.mails (by decide)⟩
theorem zi.yj (h:zi w g q x)(j:Nat)(u:Value)(x':Acc)(hcells:Zq q x'=(Zq q x).set j u)(hb:x'.boxes=x.boxes)(hm:x'.mails=x.mails)(hl:x'.log=x.log):ze w (w.setCell ⟨g,j,none⟩ u) g q x' q:=by
 have c:=h.apart
 have d:Chg [g] w (w.setCell ⟨g,j,none⟩ u):=(Chg.refl [g] w).set (.inl (by simp)) u
 have a:Chg (q.own g) w (w.setCell ⟨g,j,none⟩ u):=d.mono fun k hk=>by
  simp only[List.mem_singleton] at hk
  subst hk
  exact .inl zl.ZP
 refine⟨⟨?_,?_,?_,?_,?_,fun m hmm=>(h.parts m hmm).step a (fun k hk=>.inl hk)⟩,a,fun k hk=>.inl hk⟩
 ·have:=h.blk.set j u
  rw[show (Zq q x').toArray=(Zq q x).toArray.setIfInBounds j u from by rw[hcells];simp]
  exact this
 ·rw[hl]
  exact h.log.chg d (by simpa using fun e=>c.gl e.symm) (fun b hb=>by
   simp only[List.mem_singleton]
   rintro rfl
   exact c.hl hb)
 ·rw[hb]
  exact h.boxes.far (p:=⟨g,j,none⟩) c.hb u
 ·rw[hm]
  exact h.same
 ·rw[hm]
  exact h.mails.far (p:=⟨g,j,none⟩) c.hm u
theorem zi.yw (h:zi w g q x){b off n cap:Nat}(hv:q.vb=.slice (some ⟨b,off,none⟩) n cap)(i:Nat)(hi:i < x.boxes.length)(j:Nat)(hj:j < 6)(u:Value)(y:yg)(hy:xQ y=(xQ x.boxes[i]).set j u) :
  ze w (w.setCell ⟨b,off+i * 6+j,none⟩ u) g q {x with boxes:=x.boxes.set i y} q:=by
 have o:=h.apart
 have d:=h.boxes
 rw[hv] at d
 have B:n=x.boxes.length:=by
  obtain⟨A,c,f,_⟩:=d.form
  injection f
 subst B
 have a:q.hb=some b:=by
  obtain⟨D,v,z,C,f,_⟩:=d.at_ (by omega)
  injection f with e1
  injection e1 with e2
  injection e2 with e3
  rw[C,e3]
 have r:g≠b:=fun e=>o.hb (by rw[a,e])
 have t:Chg [b] w (w.setCell ⟨b,off+i * 6+j,none⟩ u):=(Chg.refl [b] w).set (.inl (by simp)) u
 have l:Chg (q.own g) w (w.setCell ⟨b,off+i * 6+j,none⟩ u):=t.mono fun k hk=>by
  simp only[List.mem_singleton] at hk
  subst hk
  exact .inl (zl.vW a)
 refine⟨⟨h.blk.far (p:=⟨b,off+i * 6+j,none⟩) r u,?_,?_,h.same,?_,fun m hmm=>(h.parts m hmm).step l (fun k hk=>.inl hk)⟩,l,fun k hk=>.inl hk⟩
 ·exact h.log.chg t (by simp only[List.mem_singleton];rintro e;exact o.lb (by rw[a,e])) (fun k hk=>by
   simp only[List.mem_singleton]
   rintro rfl
   exact o.eb _ hk a)
 ·have s:=d.store (i * 6+j) u
  rw[vo zT x.boxes i j hi hj u y hy] at s
  rw[hv]
  show Sl _ _ 6 _ q.hb (x.boxes.set i y).length (zk xQ (x.boxes.set i y))
  rw[List.length_set]
  rw[←Nat.add_assoc] at s
  exact s
 ·exact h.mails.far (p:=⟨b,off+i * 6+j,none⟩) (fun e=>o.bm b a e) u
theorem zi.zdF (h:zi w g q x){l:Yc}{hl':Option Nat}(hl:vL w' q.gl hl' l)(hc:Chg (q.gl :: q.hl.toList) w w')(ho:hl'=q.hl∨∃k,hl'=some k∧w.heap.size≤k):ze w w' g q {x with log:=l} {q with hl:=hl'}:=by
 have c:=h.apart
 have f:Chg (q.own g) w w':=hc.mono fun k d=>by
  rcases List.mem_cons.1 d with rfl|d
  ·exact .inl zl.Yg
  ·exact .inl (zl.Yp (by simpa using d))
 have a:∀k∈({q with hl:=hl'}:zl).own g,k∈q.own g∨w.heap.size≤k:=by
  intro k d
  simp only[zl.own,List.mem_cons,List.mem_append,Option.mem_toList] at d ⊢
  rcases d with h1|h1|(h1|h1)|h1
  ·exact .inl (.inl h1)
  ·exact .inl (.inr (.inl h1))
  ·rcases ho with h2|⟨k2,h2,h3⟩
   ·rw[h2] at h1
    exact .inl (.inr (.inr (.inl (.inl h1))))
   ·rw[h2] at h1
    injection h1 with h1
    exact .inr (by omega)
  ·exact .inl (.inr (.inr (.inl (.inr h1))))
  ·exact .inl (.inr (.inr (.inr h1)))
 refine⟨⟨?_,hl,?_,h.same,?_,fun m hmm=>(h.parts m hmm).step f a⟩,f,a⟩
 ·exact h.blk.chg hc (by
   simp only[List.mem_cons,Option.mem_toList,not_or]
   exact⟨c.gl,c.hl⟩)
 ·exact h.boxes.chg hc (fun b hb=>by
   simp only[List.mem_cons,Option.mem_toList,not_or]
   exact⟨fun e=>c.lb (by rw[hb,e]),fun e=>c.eb b e hb⟩)
 ·exact h.mails.chg hc (fun b hb=>by
   simp only[List.mem_cons,Option.mem_toList,not_or]
   exact⟨fun e=>c.lm (by rw[hb,e]),fun e=>c.em b e hb⟩)
theorem zi.zaG (h:zi w g q x)(y:yg){v':Value}{h':Option Nat}(hs:Sl w' 89 6 v' h' (x.boxes.length+1) (zk xQ x.boxes++xQ y))(hc:Chg q.hb.toList w w')(ho:h'=q.hb∨∃k,h'=some k∧w.heap.size≤k) :
  ze w (w'.setCell ⟨g,10,none⟩ v') g q {x with boxes:=x.boxes++[y]} {q with hb:=h',vb:=v'}:=by
 have d:=h.apart
 have o:g < w.heap.size:=h.blk.lt
 have f:∀k,h'=some k→(q.hb=some k)∨w.heap.size≤k:=by
  intro k c
  rcases ho with h2|⟨k2,h2,h3⟩
  ·exact .inl (by rw[←h2];exact c)
  ·rw[h2] at c
   injection c with c
   exact .inr (by omega)
 have n:h'≠some g:=fun e=>by
  rcases f g e with a|a
  ·exact d.hb a
  ·omega
 have j:Chg (q.own g) w (w'.setCell ⟨g,10,none⟩ v'):=(hc.mono fun k c=>.inl (zl.vW (by simpa using c))).set (p:=⟨g,10,none⟩) (.inl zl.ZP) v'
 have i:∀k∈({q with hb:=h',vb:=v'}:zl).own g,k∈q.own g∨w.heap.size≤k:=by
  intro k c
  simp only[zl.own,List.mem_cons,List.mem_append,Option.mem_toList] at c ⊢
  rcases c with a|a|(a|a)|a
  ·exact .inl (.inl a)
  ·exact .inl (.inr (.inl a))
  ·exact .inl (.inr (.inr (.inl (.inl a))))
  ·rcases f k a with h2|h2
   ·exact .inl (.inr (.inr (.inl (.inr h2))))
   ·exact .inr h2
  ·exact .inl (.inr (.inr (.inr a)))
 have l:Chg (g :: q.hb.toList) w (w'.setCell ⟨g,10,none⟩ v'):=(hc.mono fun k c=>.inl (List.mem_cons_of_mem _ c)).set (.inl (by simp)) v'
 refine⟨⟨?_,?_,?_,h.same,?_,fun m hmm=>(h.parts m hmm).step j i⟩,j,i⟩
 ·have r:=(h.blk.chg hc (by simpa using d.hb)).set 10 v'
  exact r
 ·exact h.log.chg l (by
   simp only[List.mem_cons,Option.mem_toList,not_or]
   exact⟨fun e=>d.gl e.symm,d.lb⟩) (fun b hb=>by
   simp only[List.mem_cons,Option.mem_toList,not_or]
   exact⟨fun e=>d.hl (by rw[hb,e]),d.eb b hb⟩)
 ·have a:=hs.far (p:=⟨g,10,none⟩) n v'
  show Sl _ _ 6 v' h' (x.boxes++[y]).length (zk xQ (x.boxes++[y]))
  rw[List.length_append,List.length_singleton,vJ]
  exact a
 ·exact h.mails.chg l (fun b hb=>by
   simp only[List.mem_cons,Option.mem_toList,not_or]
   exact⟨fun e=>d.hm (by rw[hb,e]),fun e=>d.bm b e hb⟩)
theorem zi.U8 (h:zi w g q x)(m:zR){v':Value}{h':Option Nat}(hp:yD w (q.own g) m)(hs:Sl w' 54 8 v' h' (x.mails.length+1) (zk xP q.ms++xP m))(hc:Chg q.hm.toList w w')(ho:h'=q.hm∨∃k,h'=some k∧w.heap.size≤k) :
  ze w (w'.setCell ⟨g,11,none⟩ v') g q {x with mails:=x.mails++[m.p]} {q with hm:=h',vm:=v',ms:=q.ms++[m]}:=by
 have i:=h.apart
 have r:g < w.heap.size:=h.blk.lt
 have j:∀k,h'=some k→(q.hm=some k)∨w.heap.size≤k:=by
  intro k f
  rcases ho with h2|⟨k2,h2,h3⟩
  ·exact .inl (by rw[←h2];exact f)
  ·rw[h2] at f
   injection f with f
   exact .inr (by omega)
 have o:h'≠some g:=fun e=>by
  rcases j g e with c|c
  ·exact i.hm c
  ·omega
 have l:Chg (q.own g) w (w'.setCell ⟨g,11,none⟩ v'):=(hc.mono fun k f=>.inl (zl.vR (by simpa using f))).set (p:=⟨g,11,none⟩) (.inl zl.ZP) v'
 have d:∀k∈({q with hm:=h',vm:=v',ms:=q.ms++[m]}:zl).own g,k∈q.own g∨w.heap.size≤k:=by
  intro k f
  simp only[zl.own,List.mem_cons,List.mem_append,Option.mem_toList] at f ⊢
  rcases f with c|c|(c|c)|c
  ·exact .inl (.inl c)
  ·exact .inl (.inr (.inl c))
  ·exact .inl (.inr (.inr (.inl (.inl c))))
  ·exact .inl (.inr (.inr (.inl (.inr c))))
  ·rcases j k c with h2|h2
   ·exact .inl (.inr (.inr (.inr h2)))
   ·exact .inr h2
 have n:Chg (g :: q.hm.toList) w (w'.setCell ⟨g,11,none⟩ v'):=(hc.mono fun k f=>.inl (List.mem_cons_of_mem _ f)).set (.inl (by simp)) v'
 refine⟨⟨?_,?_,?_,?_,?_,fun a ha2=>?_⟩,l,d⟩
 ·have s:=(h.blk.chg hc (by simpa using i.hm)).set 11 v'
  exact s
 ·exact h.log.chg n (by
   simp only[List.mem_cons,Option.mem_toList,not_or]
   exact⟨fun e=>i.gl e.symm,i.lm⟩) (fun b hb=>by
   simp only[List.mem_cons,Option.mem_toList,not_or]
   exact⟨fun e=>i.hl (by rw[hb,e]),i.em b hb⟩)
 ·exact h.boxes.chg n (fun b hb=>by
   simp only[List.mem_cons,Option.mem_toList,not_or]
   exact⟨fun e=>i.hb (by rw[hb,e]),i.bm b hb⟩)
 ·show (q.ms++[m]).map (·.p)=x.mails++[m.p]
  rw[List.map_append,h.same]
  rfl
 ·have c:=hs.far (p:=⟨g,11,none⟩) o v'
  show Sl _ _ 8 v' h' (x.mails++[m.p]).length (zk xP (q.ms++[m]))
  rw[List.length_append,List.length_singleton,vJ]
  exact c
 ·rcases List.mem_append.1 ha2 with c|c
  ·exact(h.parts a c).step l d
  ·rw[List.mem_singleton] at c
   subst c
   exact hp.step l d
theorem zi.Zp (h:zi w g q x)(i:Nat)(hi:i < x.boxes.length):∃b off cap,q.vb=.slice (some ⟨b,off,none⟩) x.boxes.length cap∧q.hb=some b∧x.boxes.length≤cap∧cap≤maxLen∧b < w.heap.size∧
  ∀j,j < 6→w.cell? ⟨b,off+i * 6+j,none⟩=(xQ x.boxes[i])[j]?∧w.frozen? ⟨b,off+i * 6+j,none⟩=false:=by
 obtain⟨b,off,cap,f,k,l,m,n,c⟩:=h.boxes.at_ (by omega)
 refine⟨b,off,cap,k,f,l,m,n,fun j hj=>?_⟩
 have a:i * 6+j < x.boxes.length * 6:=by omega
 obtain⟨d,e⟩:=c (i * 6+j) a
 rw[←Nat.add_assoc] at d e
 exact⟨d.trans (zy zT x.boxes i j hi hj),e⟩
theorem zi.Za (h:zi w g q x):q.ms.length=x.mails.length:=by
 rw[←h.same,List.length_map]
theorem zi.xu (h:zi w g q x)(i:Nat)(hi:i < x.mails.length)(hi2:i < q.ms.length):∃b off cap,q.vm=.slice (some ⟨b,off,none⟩) x.mails.length cap∧q.hm=some b∧x.mails.length≤cap∧cap≤maxLen∧b < w.heap.size∧
  ∀j,j < 8→w.cell? ⟨b,off+i * 8+j,none⟩=(xP q.ms[i])[j]?∧w.frozen? ⟨b,off+i * 8+j,none⟩=false:=by
 obtain⟨b,off,cap,f,k,l,m,n,c⟩:=h.mails.at_ (by omega)
 refine⟨b,off,cap,k,f,l,m,n,fun j hj=>?_⟩
 have a:i * 8+j < x.mails.length * 8:=by omega
 obtain⟨d,e⟩:=c (i * 8+j) a
 rw[←Nat.add_assoc] at d e
 exact⟨d.trans (zy z8 q.ms i j hi2 hj),e⟩
theorem zi.vD (h:zi w g q x){b off n cap:Nat}(hv:q.vm=.slice (some ⟨b,off,none⟩) n cap)(i:Nat)(hi:i < x.mails.length)(hi2:i < q.ms.length)(j:Nat)(hj:j < 8)(u:Value)(m:zR)(hm:xP m=(xP q.ms[i]).set j u)(hp:yD w (q.own g) m) :
  ze w (w.setCell ⟨b,off+i * 8+j,none⟩ u) g q {x with mails:=x.mails.set i m.p} {q with ms:=q.ms.set i m}:=by
 have t:=h.apart
 have l:=h.mails
 rw[hv] at l
 have C:n=x.mails.length:=by
  obtain⟨A,c,s,_⟩:=l.form
  injection s
 subst C
 have d:q.hm=some b:=by
  obtain⟨E,z,B,D,s,_⟩:=l.at_ (by omega)
  injection s with e1
  injection e1 with e2
  injection e2 with e3
  rw[D,e3]
 have v:g≠b:=fun e=>t.hm (by rw[d,e])
 have y:Chg [b] w (w.setCell ⟨b,off+i * 8+j,none⟩ u):=(Chg.refl [b] w).set (.inl (by simp)) u
 have o:Chg (q.own g) w (w.setCell ⟨b,off+i * 8+j,none⟩ u):=y.mono fun k hk=>by
  simp only[List.mem_singleton] at hk
  subst hk
  exact .inl (zl.vR d)
 have f:∀k∈({q with ms:=q.ms.set i m}:zl).own g,k∈q.own g∨w.heap.size≤k:=fun k hk=>.inl hk
 refine⟨⟨h.blk.far (p:=⟨b,off+i * 8+j,none⟩) v u,?_,?_,?_,?_,fun a ha2=>?_⟩,o,f⟩
 ·exact h.log.chg y (by simp only[List.mem_singleton];rintro e;exact t.lm (by rw[d,e])) (fun k hk=>by
   simp only[List.mem_singleton]
   rintro rfl
   exact t.em _ hk d)
 ·exact h.boxes.far (p:=⟨b,off+i * 8+j,none⟩) (fun e=>t.bm b e d) u
 ·show (q.ms.set i m).map (·.p)=x.mails.set i m.p
  rw[List.map_set,h.same]
 ·have r:=l.store (i * 8+j) u
  rw[vo z8 q.ms i j hi2 hj u m hm] at r
  rw[hv]
  show Sl _ _ 8 _ q.hm (x.mails.set i m.p).length (zk xP (q.ms.set i m))
  rw[List.length_set]
  rw[←Nat.add_assoc] at r
  exact r
 ·rcases List.mem_or_eq_of_mem_set ha2 with r|r
  ·exact(h.parts a r).step o f
  ·subst r
   exact hp.step o f
theorem zi.other (h:zi w g q x){b:Nat}{e:TypeId}{cs:Array Value}(hB:Blk w b e cs)(h1:e≠9)(h2:e≠56)(hb:b∉q.own g)(hc:Chg [b] w w'):zi w' g q x:=by
 have a:∀k∈q.own g,k∉[b]:=fun k hk hm=>hb (by rw[←List.mem_singleton.1 hm];exact hk)
 refine⟨h.blk.chg hc (a g zl.ZP),h.log.chg hc (a _ zl.Yg) (fun k hk=>a k (zl.Yp hk)),h.boxes.chg hc (fun k hk=>a k (zl.vW hk)),h.same,h.mails.chg hc (fun k hk=>a k (zl.vR hk)),fun m hm=>?_⟩
 have c:=h.parts m hm
 have d:yD w (b :: q.own g) m:=⟨c.keys.other c.tk hB (fun e=>h1 e.symm),c.mem.other c.tm hB (fun e=>h2 e.symm),c.tk,c.tm⟩
 exact d.keep hc.size (fun k hk hn=>hc.block k hk (fun hm=>hn (by rw[List.mem_singleton.1 hm];simp))) (fun k _ hn hk=>hn (List.mem_cons_of_mem _ hk))
end
end Go.Proofs.YtfhlhdmhgheonaaGreatDoor
namespace Go.Proofs.YtfhlhdmhgheonaaGreatDoor
open Go.RowKit Go.Sort
attribute [local go_sem ↓] Go.wp_at_zero Go.wp_at_succ
theorem zdc:∀n,n < 256→Y6 (UInt8.ofNat n)=(decide (33≤n) && decide (n≤126) && !(n==40) && !(n==41) && !(n==123) && !(n==125) && !(n==37) && !(n==42) && !(n==34) && !(n==92) && !(n==93)):=by decide+kernel
theorem atomB_is (c:UInt8):Y6 c=(decide (33≤c.toNat) && decide (c.toNat≤126) && !(c.toNat==40) && !(c.toNat==41) && !(c.toNat==123) && !(c.toNat==125) && !(c.toNat==37) && !(c.toNat==42) && !(c.toNat==34) && !(c.toNat==92) && !(c.toNat==93)):=by
 have h:=zdc c.toNat c.toNat_lt
 rw[UInt8.ofNat_toNat] at h
 exact h
theorem VL (s:ByteArray)(w:World)(hs:s.size≤140737488351232) :
  Calls Tryz.prog 43 #[.string s] w fun e w'=>e=.returned (.bool (Zn s.data.toList))∧w=w':=by
 obtain⟨b,n⟩:∃b,Zn s.data.toList=b:=⟨_,rfl⟩
 rw[n]
 have g:=zdG n
 clear n
 go_enter Tryz.func43,Tryz.ntmps43
 go_wp2_with fail
 go_loop [3] (fun i=>∃k:Nat,k≤s.size∧i=.int .i64 k∧Hid ((s.data.toList.take k).all Y6=true)) (fun i=>s.size - (intOf i).toNat)
 case atStart=>exact⟨0,Nat.zero_le _,rfl,rfl⟩
 case round=>
  obtain⟨k,hk,rfl,l⟩:=hrel
  by_cases r:k < s.size
  ·have H:=zdG l
   clear l
   have c:=zdG (fun h=>g.out.symm.trans (Ja s k r h))
   have d:=zdG (Jq s k r H.out.out)
   have o:=atomB_is s[k]
   have a:=zdG o
   clear o
   by_cases c0:(s[k].toNat:Int) < 33
   ·have f:decide (33≤s[k].toNat)=false:=decide_eq_false (by omega)
    have j:b=false:=c.out (by rw[a.out,f];simp)
    subst j
    clear c d a f g
    go_wp2_with fail
    go_ret
    exact⟨rfl,rfl⟩
   ·have F:decide (33≤s[k].toNat)=true:=decide_eq_true (by omega)
    have G:=zdG F
    clear F
    by_cases c1:126 < (s[k].toNat:Int)
    ·have f:decide (s[k].toNat≤126)=false:=decide_eq_false (by omega)
     have j:b=false:=c.out (by rw[a.out,f];simp)
     subst j
     clear c d a f g
     go_wp2_with fail
     go_ret
     exact⟨rfl,rfl⟩
    ·have I:decide (s[k].toNat≤126)=true:=decide_eq_true (by omega)
     have J:=zdG I
     clear I
     by_cases t:s[k].toNat=40
     ·have f:(s[k].toNat==40)=true:=by simpa using t
      have j:b=false:=c.out (by rw[a.out,f];simp)
      subst j
      have d2:((s[k].toNat:Int)==40)=true:=by rw[beq_iff_eq];omega
      clear c d a f g t
      go_wp2_with fail
      go_ret
      exact⟨rfl,rfl⟩
     ·have K:(s[k].toNat==40)=false:=by simpa using t
      have d2:((s[k].toNat:Int)==40)=false:=by rw[beq_eq_false_iff_ne];omega
      clear t
      have L:=zdG K
      clear K
      by_cases u:s[k].toNat=41
      ·have f:(s[k].toNat==41)=true:=by simpa using u
       have j:b=false:=c.out (by rw[a.out,f];simp)
       subst j
       have d3:((s[k].toNat:Int)==41)=true:=by rw[beq_iff_eq];omega
       clear c d a f g u
       go_wp2_with fail
       go_ret
       exact⟨rfl,rfl⟩
      ·have M:(s[k].toNat==41)=false:=by simpa using u
       have d3:((s[k].toNat:Int)==41)=false:=by rw[beq_eq_false_iff_ne];omega
       clear u
       have N:=zdG M
       clear M
       by_cases v:s[k].toNat=123
       ·have f:(s[k].toNat==123)=true:=by simpa using v
        have j:b=false:=c.out (by rw[a.out,f];simp)
        subst j
        have d4:((s[k].toNat:Int)==123)=true:=by rw[beq_iff_eq];omega
        clear c d a f g v
        go_wp2_with fail
        go_ret
        exact⟨rfl,rfl⟩
       ·have O:(s[k].toNat==123)=false:=by simpa using v
        have d4:((s[k].toNat:Int)==123)=false:=by rw[beq_eq_false_iff_ne];omega
        clear v
        have P:=zdG O
        clear O
        by_cases x:s[k].toNat=125
        ·have f:(s[k].toNat==125)=true:=by simpa using x
         have j:b=false:=c.out (by rw[a.out,f];simp)
         subst j
         have d5:((s[k].toNat:Int)==125)=true:=by rw[beq_iff_eq];omega
         clear c d a f g x
         go_wp2_with fail
         go_ret
         exact⟨rfl,rfl⟩
        ·have Q:(s[k].toNat==125)=false:=by simpa using x
         have d5:((s[k].toNat:Int)==125)=false:=by rw[beq_eq_false_iff_ne];omega
         clear x
         have R:=zdG Q
         clear Q
         by_cases y:s[k].toNat=37
         ·have f:(s[k].toNat==37)=true:=by simpa using y
          have j:b=false:=c.out (by rw[a.out,f];simp)
          subst j
          have d6:((s[k].toNat:Int)==37)=true:=by rw[beq_iff_eq];omega
          clear c d a f g y
          go_wp2_with fail
          go_ret
          exact⟨rfl,rfl⟩
         ·have S:(s[k].toNat==37)=false:=by simpa using y
          have d6:((s[k].toNat:Int)==37)=false:=by rw[beq_eq_false_iff_ne];omega
          clear y
          have T:=zdG S
          clear S
          by_cases z:s[k].toNat=42
          ·have f:(s[k].toNat==42)=true:=by simpa using z
           have j:b=false:=c.out (by rw[a.out,f];simp)
           subst j
           have d7:((s[k].toNat:Int)==42)=true:=by rw[beq_iff_eq];omega
           clear c d a f g z
           go_wp2_with fail
           go_ret
           exact⟨rfl,rfl⟩
          ·have U:(s[k].toNat==42)=false:=by simpa using z
           have d7:((s[k].toNat:Int)==42)=false:=by rw[beq_eq_false_iff_ne];omega
           clear z
           have V:=zdG U
           clear U
           by_cases A:s[k].toNat=34
           ·have f:(s[k].toNat==34)=true:=by simpa using A
            have j:b=false:=c.out (by rw[a.out,f];simp)
            subst j
            have d8:((s[k].toNat:Int)==34)=true:=by rw[beq_iff_eq];omega
            clear c d a f g A
            go_wp2_with fail
            go_ret
            exact⟨rfl,rfl⟩
           ·have W:(s[k].toNat==34)=false:=by simpa using A
            have d8:((s[k].toNat:Int)==34)=false:=by rw[beq_eq_false_iff_ne];omega
            clear A
            have X:=zdG W
            clear W
            by_cases B:s[k].toNat=92
            ·have f:(s[k].toNat==92)=true:=by simpa using B
             have j:b=false:=c.out (by rw[a.out,f];simp)
             subst j
             have d9:((s[k].toNat:Int)==92)=true:=by rw[beq_iff_eq];omega
             clear c d a f g B
             go_wp2_with fail
             go_ret
             exact⟨rfl,rfl⟩
            ·have Y:(s[k].toNat==92)=false:=by simpa using B
             have d9:((s[k].toNat:Int)==92)=false:=by rw[beq_eq_false_iff_ne];omega
             clear B
             have Z:=zdG Y
             clear Y
             by_cases m:s[k].toNat=93
             ·have f:(s[k].toNat==93)=true:=by simpa using m
              have j:b=false:=c.out (by rw[a.out,f];simp)
              subst j
              have C:((s[k].toNat:Int)==93)=true:=by rw[beq_iff_eq];omega
              clear c d a f g m
              go_wp2_with fail
              go_ret
              exact⟨rfl,rfl⟩
             ·have p:(s[k].toNat==93)=false:=by simpa using m
              have C:((s[k].toNat:Int)==93)=false:=by rw[beq_eq_false_iff_ne];omega
              clear m
              have q:=zdG p
              clear p
              have HY:=zdG (d.out (by rw[a.out,G.out,J.out,L.out,N.out,P.out,R.out,T.out,V.out,X.out,Z.out,q.out];rfl))
              clear c d a G J L N P R T V X Z q
              go_wp2_with fail
              go_round
              case rel=>exact⟨k+1,by omega,by go_num,HY⟩
              case measure=>simp[intOf];omega
  ·have D:k=s.size:=by omega
   subst D
   have n:b=!s.data.toList.isEmpty:=by
    rw[←g.out]
    unfold Zn
    have h1:=l
    rw[List.take_of_length_le (by rw[V4];exact Nat.le_refl _)] at h1
    rw[h1.out]
    simp
   have E:=zdG n
   clear n l
   go_wp2_with fail
   go_ret
   exact⟨zH (by rw[E.out,←ByteArray.toList_eq]),rfl⟩
end Go.Proofs.YtfhlhdmhgheonaaGreatDoor
namespace Go.Proofs.YtfhlhdmhgheonaaGreatDoor
open Go.RowKit
attribute [local go_sem ↓] Go.wp_at_zero Go.wp_at_succ
theorem below_drewN {B:Nat}{w w':World}(h:Below B w w')(n:Nat):Below B w (w'.drewN n):=⟨h.os,h.tape,h.output,h.size,h.block⟩
theorem Q5 (w:World)(va vb:Value)(a b:List E4)(ha:RdS w [] 4 va a.length (zM a))(hb:RdS w [] 4 vb b.length (zM b)) :
  Calls Tryz.prog 61 #[va,vb] w fun e w'=>e=.returned (.bool (decide (a=b)))∧Below w.heap.size w w':=by
 obtain⟨n,hn⟩:∃n,a.length=n:=⟨_,rfl⟩
 obtain⟨m,hm⟩:∃m,b.length=m:=⟨_,rfl⟩
 rw[hn] at ha
 rw[hm] at hb
 obtain⟨A,ca,rfl,a6,N⟩:=ha.form
 have a7:n≤9223372036854775807:=by
  unfold maxLen at N
  omega
 obtain⟨B,cb,rfl,_,_⟩:=hb.form
 have HA:=zdG ha
 have HB:=zdG hb
 have S:=zdG hn
 have T:=zdG hm
 clear hn hm ha hb
 go_enter Tryz.func61,Tryz.ntmps61
 by_cases L:n=m
 ·subst L
  go_wp2_with fail
  go_loopw [5] (fun i wr=>∃(k:Nat),k≤n∧i=.int .i64 k∧Hid (Below w.heap.size w wr∧a.take k=b.take k)) (fun i _=>n - (intOf i).toNat)
  case atStart=>exact⟨0,Nat.zero_le _,rfl,⟨Below.refl _ _,rfl⟩⟩
  case round=>
   obtain⟨k,hk,rfl,x⟩:=hrel
   by_cases M:k < n
   ·have G:k < a.length:=by rw[S.out];exact M
    have H:k < b.length:=by rw[T.out];exact M
    have a8:=x.out.1.size
    obtain⟨D,d,ab,a3,_,_,O,_,P⟩:=HA.out.at_ (by omega)
    injection a3 with hva1 hva2 hva3
    subst hva1
    obtain⟨E,f,ac,a4,_,_,Q,_,R⟩:=HB.out.at_ (by omega)
    injection a4 with hvb1 hvb2 hvb3
    subst hvb1
    clear hva2 hva3 hvb2 hvb3
    obtain⟨f0,f1,f2,f3⟩:=ZU a k G
    obtain⟨g0,g1,g2,g3⟩:=ZU b k H
    have l:∀j,j < n * 4→wr.cell? ⟨D,d+j,none⟩=(zM a)[j]?:=fun j hj=>(x.out.1.cell (p:=⟨D,d+j,none⟩) O).trans (P j hj)
    have o:∀j,j < n * 4→wr.cell? ⟨E,f+j,none⟩=(zM b)[j]?:=fun j hj=>(x.out.1.cell (p:=⟨E,f+j,none⟩) Q).trans (R j hj)
    have U:wr.cell? ⟨D,d+k * 4,none⟩=some (.int .i64 a[k].m):=(l (k * 4) (by omega)).trans f0
    have V:wr.cell? ⟨D,d+k * 4+1,none⟩=some (.int .i64 a[k].k):=(l (k * 4+1) (by omega)).trans f1
    have W:wr.cell? ⟨D,d+k * 4+2,none⟩=some (.int .i64 a[k].i):=(l (k * 4+2) (by omega)).trans f2
    have X:wr.cell? ⟨D,d+k * 4+3,none⟩=some (.int .i64 a[k].h):=(l (k * 4+3) (by omega)).trans f3
    have e0:wr.cell? ⟨E,f+k * 4,none⟩=some (.int .i64 b[k].m):=(o (k * 4) (by omega)).trans g0
    have e1:wr.cell? ⟨E,f+k * 4+1,none⟩=some (.int .i64 b[k].k):=(o (k * 4+1) (by omega)).trans g1
    have e2:wr.cell? ⟨E,f+k * 4+2,none⟩=some (.int .i64 b[k].i):=(o (k * 4+2) (by omega)).trans g2
    have e3:wr.cell? ⟨E,f+k * 4+3,none⟩=some (.int .i64 b[k].h):=(o (k * 4+3) (by omega)).trans g3
    clear l o P R f0 f1 f2 f3 g0 g1 g2 g3
    have a9:D < wr.heap.size:=by omega
    have a5:E < wr.heap.size:=by omega
    by_cases s:a[k]=b[k]
    ·have q:a.take (k+1)=b.take (k+1):=by
      rw[List.take_succ_eq_append_getElem G,List.take_succ_eq_append_getElem H,x.out.2,s]
     rw[s] at U V W X
     have C:=zdG q
     clear q s
     generalize b[k]=z at U V W X e0 e1 e2 e3
     go_wp2_with fail
     go_quiet (fail)
     go_wp2
     have I:=fun c=>zdG (show Below w.heap.size w (wr.drewN c)∧a.take (k+1)=b.take (k+1) from ⟨below_drewN x.out.1 c,C.out⟩)
     refine⟨?_,by simp[intOf];omega⟩
     first|exact⟨k+1,by omega,by go_num,I nq⟩|((repeat apply Exists.intro);exact⟨⟨k+1,by omega,by go_num,I nq⟩,rfl⟩)
    ·have r:false=decide (a=b):=by
      symm
      rw[decide_eq_false_iff_not]
      rintro rfl
      exact s rfl
     have g:=zdG r
     have u:=fun c=>zdG (below_drewN x.out.1 c)
     clear r
     generalize hy:a[k]=y at U V W X s
     generalize hz:b[k]=z at e0 e1 e2 e3 s
     clear hy hz
     by_cases v:y.m=z.m
     ·have Y:(y.m==z.m)=true:=by simpa using v
      by_cases t:y.k=z.k
      ·have Z:(y.k==z.k)=true:=by simpa using t
       by_cases F:y.i=z.i
       ·have a0:(y.i==z.i)=true:=by simpa using F
        have J:¬y.h=z.h:=fun J=>s (by
         cases y
         cases z
         simp only at v t F J
         subst v
         subst t
         subst F
         subst J
         rfl)
        have aa:(y.h==z.h)=false:=by simpa using J
        clear v t F J s
        go_wp2_with fail
        go_quiet (fail)
        go_wp2
        go_ret
        exact⟨zH g.out,(u _).out⟩
       ·have a0:(y.i==z.i)=false:=by simpa using F
        clear v t F s
        go_wp2_with fail
        go_quiet (fail)
        go_wp2
        go_ret
        exact⟨zH g.out,(u _).out⟩
      ·have Z:(y.k==z.k)=false:=by simpa using t
       clear v t s
       go_wp2_with fail
       go_quiet (fail)
       go_wp2
       go_ret
       exact⟨zH g.out,(u _).out⟩
     ·have Y:(y.m==z.m)=false:=by simpa using v
      clear v s
      go_wp2_with fail
      go_quiet (fail)
      go_wp2
      go_ret
      exact⟨zH g.out,(u _).out⟩
   ·have a1:k=n:=by omega
    subst a1
    have K:true=decide (a=b):=by
     symm
     rw[decide_eq_true_iff]
     have t:=x.out.2
     rw[List.take_of_length_le (by rw[S.out];exact Nat.le_refl _),List.take_of_length_le (by rw[T.out];exact Nat.le_refl _)] at t
     exact t
    have a2:=zdG K
    clear K
    go_wp2
    go_ret
    exact⟨zH a2.out,x.out.1⟩
 ·have r:false=decide (a=b):=by
   symm
   rw[decide_eq_false_iff_not]
   rintro rfl
   exact L (S.out.symm.trans T.out)
  have g:=zdG r
  clear r
  go_wp2
  go_ret
  exact⟨zH g.out,Below.refl _ _⟩
end Go.Proofs.YtfhlhdmhgheonaaGreatDoor
